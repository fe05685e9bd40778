import Derived.Test.YtpifnlodilcgkaaGreatHH
set_option linter.unusedVariables false
namespace Go.Proofs.YtpifnlodilcgkaaGreat
namespace Abs
/-! ### ref16: what is read, what is written, plain part -/
theorem readB_eq {d : ByteArray} {off n : Int} (h0 : 0 ≤ off) (h1 : 0 ≤ n) : readB d off n = ofL (((byL d).drop off.toNat).take n.toNat) := by
  unfold readB
  have e1 : (byL d).drop (min off (d.size : Int)).toNat = (byL d).drop off.toNat := by
    by_cases h : off ≤ (d.size : Int)
    · rw [show min off (d.size : Int) = off by omega]
    · rw [List.drop_eq_nil_of_le (by rw [byL_len]; omega), List.drop_eq_nil_of_le (by rw [byL_len]; omega)]
  rw [e1]
  congr 1
  by_cases h : n ≤ ((((byL d).drop off.toNat).length : Nat) : Int)
  · rw [show min n ((((byL d).drop off.toNat).length : Nat) : Int) = n by omega]
  · rw [List.take_of_length_le (by omega), List.take_of_length_le (by omega)]
theorem read_step {d : ByteArray} {a j : Nat} (h : a + j < d.size) : ofL (((byL d).drop a).take j) ++ d.extract (a + j) (a + j + 1) = ofL (((byL d).drop a).take (j + 1)) := by
  have hl : j < ((byL d).drop a).length := by rw [List.length_drop, byL_len]; omega
  rw [extract_eq, ofL_app, List.take_succ_eq_append_getElem hl]
  congr 2
  rw [List.drop_take, show a + j + 1 - (a + j) = 1 by omega, ← List.drop_drop, List.drop_eq_getElem_cons hl]
  rfl
def padL (l : List UInt8) (off : Nat) : List UInt8 := l ++ List.replicate (off - l.length) 0
theorem pad_len (l : List UInt8) (off : Nat) : (padL l off).length = max l.length off := by
  unfold padL
  rw [List.length_append, List.length_replicate]; omega
theorem outL_eq (d b : ByteArray) (off : Nat) : outL d b off = (padL (byL d) off).take off ++ byL b ++ (padL (byL d) off).drop (off + b.size) := by
  have e0 : cpL (List.replicate (max d.size (off + b.size)) (0 : UInt8)) 0 (byL d) = byL d ++ List.replicate (max d.size (off + b.size) - d.size) 0 := by
    unfold cpL
    rw [List.take_zero, List.nil_append, List.drop_replicate, byL_len, Nat.zero_add]
  unfold outL
  rw [e0]
  unfold cpL padL
  have h1 : (byL d ++ List.replicate (max d.size (off + b.size) - d.size) (0 : UInt8)).take off = (byL d ++ List.replicate (off - (byL d).length) (0 : UInt8)).take off := by
    rw [List.take_append, List.take_append, List.take_replicate, List.take_replicate, byL_len]
    congr 2
    omega
  have h2 : (byL d ++ List.replicate (max d.size (off + b.size) - d.size) (0 : UInt8)).drop (off + b.size) = (byL d ++ List.replicate (off - (byL d).length) (0 : UInt8)).drop (off + b.size) := by
    by_cases h : off + b.size ≤ d.size
    · rw [show max d.size (off + b.size) - d.size = 0 by omega, byL_len, show off - d.size = 0 by omega]
    · rw [List.drop_eq_nil_of_le (by rw [List.length_append, List.length_replicate, byL_len]; omega), List.drop_eq_nil_of_le (by rw [List.length_append, List.length_replicate, byL_len]; omega)]
  rw [h1, byL_len b, h2]
end Abs
end Go.Proofs.YtpifnlodilcgkaaGreat

set_option linter.unusedVariables false
namespace Go.Proofs.YtpifnlodilcgkaaGreat
namespace Abs
set_option linter.unusedSimpArgs false
set_option maxRecDepth 10000
set_option maxHeartbeats 2000000
attribute [local irreducible] AOps AW AP ACalls thenQ inBlk noGoto

/-! ### package gaolerref16: ReadAt -/
theorem rreadAt_c {T : Tab} {L : List Node} (ht : Tells T L) {i off n : Int} (ho : in64 off) (hn : in64 n) {H : AHeap} {K : AVal → AHeap → Prop} (hK : K (.tup [.s (T.readF i off n).1, .i (T.readF i off n).2]) H) :
    ACalls Tryz.prog 13 [.agg (encT L), .i i, .i off, .i n] H K := by
  refine acalls_body Tryz.func13 rfl rfl rfl ?_
  have hg := ht.good
  have hf := (at_few hg i).2.1
  unfold Tab.readF at hK
  unfold in64 at ho hn
  repeat first|apply w6|apply w7
  refine s_box rfl rfl rfl (fun b4 hb4 => ?_); have hb := hb4; (try simp only [put_none_iff, prot_none_iff] at hb); (repeat obtain ⟨_, _, hb⟩ := hb)
  repeat first|(apply x1;apply r0;apply r0)|(apply x2;apply r0;(apply q0);apply r0)|(apply x9;apply r0)|apply w4|apply w6|apply w7|apply w5
  refine rget_c ht.len ?_
  rw [ht.get]
  generalize T.at i = nd at hK hf ⊢
  skip
  refine s_alloc tk rfl rfl rfl (fun b10 hb10 => ?_); have hb := hb10; (try simp only [put_none_iff, prot_none_iff] at hb); (repeat obtain ⟨_, _, hb⟩ := hb)
  repeat first|(apply x1;apply r0;apply r0)|(apply x2;apply r0;(with_reducible repeat first|apply q0|apply ps);apply r0)|(apply xst;apply r0;(with_reducible repeat first|apply q0|apply ps);apply r0)|apply w4|apply w6|apply w7|apply w5
  refine aw_cond rfl (fun g1 => ?_) (fun g1 => ?_)<;>first|replace g1:=not_t g1|replace g1:=not_f g1
  · rw [if_pos g1] at hK
    repeat first|(apply x1;apply r0;apply r0)|apply w4|apply w6|apply w7|apply wd|apply w5|apply we
    exact rt2 (H' := H) rfl rfl rfl (.refl _) (by repeat first|exact s0|(apply su1;assumption)) hK
  rw [if_neg (fun q => q g1)] at hK
  repeat first|(apply x1;apply r0;apply r0)|apply w6|apply w7|apply wa|apply w5
  refine s_gsplit rfl rfl (fun g2 => ?_) (fun g2 => ?_)<;>first|replace g2:=of_decide_eq_true g2|replace g2:=of_decide_eq_false g2
  · rw [if_pos g2] at hK
    repeat first|(apply gO;first|(apply x1;apply r0;apply r0)|apply w4|(apply w3;apply r0;apply r0))|(apply gW;first|apply w6|apply w7|(apply w8;apply r0)|apply wd)|apply w5|apply we
    exact rt2 (H' := H) rfl rfl rfl (.refl _) (by repeat first|exact s0|(apply su1;assumption)) hK
  rw [if_neg g2] at hK
  repeat first|(apply x1;apply r0;apply r0)|(apply x5;apply r0)|apply w4|apply w5
  refine aw_cond rfl (fun g3 => ?_) (fun g3 => ?_)<;>first|replace g3:=of_decide_eq_true g3|replace g3:=of_decide_eq_false g3
  · rw [if_pos g3] at hK
    repeat first|(apply x1;apply r0;apply r0)|apply w4|apply w6|apply w7|apply wd|apply w5|apply we
    exact rt2 (H' := H) rfl rfl rfl (.refl _) (by repeat first|exact s0|(apply su1;assumption)) hK
  rw [if_neg g3, readB_eq (by omega) (by omega)] at hK
  repeat first|(apply x1;apply r0;apply r0)|apply w4|apply w6|apply w7|apply wa|apply wb|apply w5
  generalize hY : AHeap.put _ b10 _ = Y
  have yr10 : Rd Y b10 (encM nd) := by rw [← hY]; exact (by apply rd_eq;(focus apply q0);rfl)
  have ys : H.sub Y := by rw [← hY]; exact (by repeat first|exact s0|(apply su1;assumption))
  clear hY
  refine aw_loop (fun j : Nat => (j = 0 ∨ off + (j : Int) ≤ nd.data.size) ∧ (j : Int) ≤ n) (fun j => [(2, .i off), (3, .i n), (10, .ptr b10 0), (11, .s (ofL (((byL nd.data).drop off.toNat).take j))), (12, .i (off + (j : Int)))]) (fun _ => Y) (fun j => nd.data.size - j) 0 ⟨.inl rfl, by omega⟩ (by rw [List.take_zero, show off + ((0 : Nat) : Int) = off by omega]; exact (by repeat (first | exact Fr.sub_nil _ | refine Fr.sub_cons rfl ?_))) (AHeap.sub_refl _) ?_
  intro j hj
  have MARK : True := trivial
  repeat first|(apply x1;apply r0;apply r0)|(apply x2;apply r0;(with_reducible assumption);apply r0)|apply w6|apply w7
  refine s_gsplit rfl rfl (fun c1 => ?_) (fun c1 => ?_)<;>first|replace c1:=of_decide_eq_true c1|replace c1:=of_decide_eq_false c1
  case refine_2 =>
    repeat first|(apply gO;first|(apply x1;apply r0;apply r0)|apply w4|(apply w3;apply r0;apply r0))|(apply gW;first|apply w6|apply w7|(apply w9;apply r0)|apply wd|apply wc)|apply w5|apply wf|apply wh
    have hend : ((byL nd.data).drop off.toNat).take j = ((byL nd.data).drop off.toNat).take n.toNat := by
      have hle : ((byL nd.data).drop off.toNat).length ≤ j := by rw [List.length_drop, byL_len]; omega
      rw [List.take_of_length_le hle, List.take_of_length_le (by omega)]
    rw [hend]
    skip
    exact rt2 (H' := H) rfl rfl rfl (.refl _) (by repeat assumption) hK
  repeat first|(apply x1;apply r0;apply r0)|(apply x5;apply r0)|apply w4|(apply x7;apply r0;omega)|apply w5
  refine aw_cond rfl (fun c2 => ?_) (fun c2 => ?_)<;>first|replace c2:=of_decide_eq_true c2|replace c2:=of_decide_eq_false c2
  case refine_2 =>
    have hend : j = n.toNat := by omega
    rw [hend]
    repeat first|(apply gO;first|(apply x1;apply r0;apply r0)|apply w4)|(apply gW;first|apply w6|apply w7|apply wd|apply wc)|apply w5|apply wf|apply wh
    exact rt2 (H' := H) rfl rfl rfl (.refl _) (by repeat assumption) hK
  have hst := read_step (d := nd.data) (a := off.toNat) (j := j) (by omega)
  have hjs : (ofL (((byL nd.data).drop off.toNat).take j)).size ≤ 100 := by
    show (List.toArray _).size ≤ 100
    rw [List.size_toArray, List.length_take, List.length_drop, byL_len]; omega
  repeat first|(apply gO;first|(apply x1;apply r0;apply r0)|(apply x2;apply r0;(with_reducible assumption);apply r0)|(apply x6;apply r0;omega))|(apply gW;first|apply w6|apply w7|apply wa|apply wb)|apply w5
  refine s_slices (l := off + (j : Int)) (h := off + (j : Int) + 1) tk rfl rfl rfl rfl rfl (by omega) (by omega) (by omega) ?_
  rw [show (off + (j : Int)).toNat = off.toNat + j by omega, show (off + (j : Int) + 1).toNat = off.toNat + j + 1 by omega]
  skip
  refine s_cat rfl rfl rfl (by rw [ByteArray.size_extract]; omega) ?_
  rw [hst]
  repeat first|(apply x1;apply r0;apply r0)|apply w4|(apply x6;apply r0;omega)|apply w7|apply w5|apply wg
  exact ⟨j + 1, ⟨by omega, by omega⟩, by omega, (by rw [show off + ((j + 1 : Nat) : Int) = off + (j : Int) + 1 by omega]; exact (by repeat (first | exact Fr.sub_nil _ | refine Fr.sub_cons rfl ?_))), s0⟩
end Abs
end Go.Proofs.YtpifnlodilcgkaaGreat
