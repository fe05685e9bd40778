import Derived.Test.YtpifnlodilcgkaaGreatHJ
set_option linter.unusedVariables false
namespace Go.Proofs.YtpifnlodilcgkaaGreat
namespace Abs
/-! ### ref16: padded -/
def padTo (l : List UInt8) (j : Nat) : List UInt8 := l ++ List.replicate j 0
theorem padTo_step (l : List UInt8) (j : Nat) : ofL (padTo l j) ++ (⟨#[0]⟩ : ByteArray) = ofL (padTo l (j + 1)) := by
  rw [show (⟨#[0]⟩ : ByteArray) = ofL [0] from rfl, ofL_app]
  unfold padTo
  rw [List.append_assoc, List.replicate_succ']
theorem padTo_len (l : List UInt8) (j : Nat) : (ofL (padTo l j)).size = l.length + j := by
  show (List.toArray _).size = _
  unfold padTo
  rw [List.size_toArray, List.length_append, List.length_replicate]
end Abs
end Go.Proofs.YtpifnlodilcgkaaGreat

set_option linter.unusedVariables false
namespace Go.Proofs.YtpifnlodilcgkaaGreat
namespace Abs
set_option linter.unusedSimpArgs false
set_option maxRecDepth 10000
set_option maxHeartbeats 2000000
attribute [local irreducible] AOps AW AP ACalls thenQ inBlk noGoto

/-! ### package gaolerref16: WriteAt -/
theorem rwriteAt_c {T : Tab} {L : List Node} (ht : Tells T L) {c : Cred} (hc : c.small) {i off : Int} (ho : in64 off) {b : ByteArray} (hb0 : b.size ≤ 100) {H : AHeap} {K : AVal → AHeap → Prop}
    (hK : ∀ M, Tells (T.writeF c i off b).1 M → K (.tup [.agg (encT M), .i (T.writeF c i off b).2]) H) :
    ACalls Tryz.prog 14 [.agg (encT L), .agg (encCred c), .i i, .i off, .s b] H K := by
  refine acalls_body Tryz.func14 rfl rfl rfl ?_
  have hg := ht.good
  have hf := (at_few hg i).2.1
  obtain ⟨R, hR⟩ : ∃ R, R = T.writeF c i off b := ⟨_, rfl⟩
  rw [← hR] at hK
  unfold Tab.writeF at hR
  unfold in64 at ho
  repeat first|apply w6|apply w7
  refine s_box rfl rfl rfl (fun b5 hb5 => ?_); have hb := hb5; (try simp only [put_none_iff, prot_none_iff] at hb); (repeat obtain ⟨_, _, hb⟩ := hb)
  skip
  refine s_box rfl rfl rfl (fun b6 hb6 => ?_); have hb := hb6; (try simp only [put_none_iff, prot_none_iff] at hb); (repeat obtain ⟨_, _, hb⟩ := hb)
  skip
  refine s_alloc tk rfl rfl rfl (fun b10 hb10 => ?_); have hb := hb10; (try simp only [put_none_iff, prot_none_iff] at hb); (repeat obtain ⟨_, _, hb⟩ := hb)
  repeat first|(apply x1;apply r0;apply r0)|(apply x2;apply r0;(with_reducible repeat first|assumption|apply q0|apply q3);apply r0)|(apply x9;apply r0)|apply w4|apply w6|apply w7|apply w5
  refine rget_c ht.len ?_
  rw [ht.get]
  skip
  refine s_alloc tk rfl rfl rfl (fun b12 hb12 => ?_); have hb := hb12; (try simp only [put_none_iff, prot_none_iff] at hb); (repeat obtain ⟨_, _, hb⟩ := hb)
  repeat first|(apply x1;apply r0;apply r0)|(apply x2;apply r0;(with_reducible repeat first|apply q0|apply ps);apply r0)|(apply xst;apply r0;(with_reducible repeat first|apply q0|apply ps);apply r0)|apply w4|apply w6|apply w7|apply w5
  refine aw_cond rfl (fun g1 => ?_) (fun g1 => ?_)<;>first|replace g1:=not_t g1|replace g1:=not_f g1
  · rw [if_pos g1] at hR
    rw [hR] at hK
    repeat first|(apply gO;first|(apply x1;apply r0;apply r0)|(apply x2;apply r0;(with_reducible repeat first|assumption|apply q0|apply ps|apply q3|apply gp);apply r0)|(apply xst;apply r0;(with_reducible repeat first|assumption|apply q0|apply ps|apply q3|apply gp);apply r0)|apply w4)|(apply gW;first|apply w6|apply w7|apply wd)|apply w5|apply we
    exact rt2c (H' := H) rfl rfl (by apply q0) rfl (by rfl) rfl (by exact .pair (wk_agg rfl) (.refl _)) (by repeat first|exact s0|(apply su1;assumption)) (hK L ht)
  have g1' : (T.at i).kind = 1 := g1
  rw [if_neg (fun q => q g1')] at hR
  repeat first|(apply x1;apply r0;apply r0)|apply w4|apply w6|apply w7|apply wa|apply w5
  refine aw_cond rfl (fun g2 => ?_) (fun g2 => ?_)<;>first|replace g2:=of_decide_eq_true g2|replace g2:=of_decide_eq_false g2
  · rw [if_pos g2] at hR
    rw [hR] at hK
    repeat first|(apply gO;first|(apply x1;apply r0;apply r0)|(apply x2;apply r0;(with_reducible repeat first|assumption|apply q0|apply ps|apply q3|apply gp);apply r0)|(apply xst;apply r0;(with_reducible repeat first|assumption|apply q0|apply ps|apply q3|apply gp);apply r0)|apply w4)|(apply gW;first|apply w6|apply w7|apply wd)|apply w5|apply we
    exact rt2c (H' := H) rfl rfl (by apply q0) rfl (by rfl) rfl (by exact .pair (wk_agg rfl) (.refl _)) (by repeat first|exact s0|(apply su1;assumption)) (hK L ht)
  rw [if_neg g2] at hR
  repeat first|(apply x1;apply r0;apply r0)|apply w4|apply w6|apply w7|apply wa|apply w5
  refine aw_cond rfl (fun g3 => ?_) (fun g3 => ?_)<;>first|replace g3:=of_decide_eq_true g3|replace g3:=of_decide_eq_false g3
  · rw [if_pos (show (b.size : Int) = 0 by rw [g3]; rfl)] at hR
    rw [hR] at hK
    repeat first|(apply gO;first|(apply x1;apply r0;apply r0)|(apply x2;apply r0;(with_reducible repeat first|assumption|apply q0|apply ps|apply q3|apply gp);apply r0)|(apply xst;apply r0;(with_reducible repeat first|assumption|apply q0|apply ps|apply q3|apply gp);apply r0)|apply w4)|(apply gW;first|apply w6|apply w7|apply wd)|apply w5|apply we
    exact rt2c (H' := H) rfl rfl (by apply q0) rfl (by rfl) rfl (by exact .pair (wk_agg rfl) (.refl _)) (by repeat first|exact s0|(apply su1;assumption)) (hK L ht)
  have hb1 : ¬ b.size = 0 := fun q => g3 (by
    rw [← ofL_byL b, List.length_eq_zero_iff.1 (show (byL b).length = 0 by rw [byL_len]; exact q)]; rfl)
  rw [if_neg (show ¬ (b.size : Int) = 0 by omega)] at hR
  repeat first|(apply x1;apply r0;apply r0)|apply w6|apply w7|apply wa|apply w5
  refine s_gsplit rfl rfl (fun g4 => ?_) (fun g4 => ?_)<;>first|replace g4:=of_decide_eq_true g4|replace g4:=of_decide_eq_false g4
  · rw [if_pos (show 48 - (b.size : Int) < off by omega)] at hR
    rw [hR] at hK
    repeat first|(apply gO;first|(apply x1;apply r0;apply r0)|(apply x2;apply r0;(with_reducible repeat first|assumption|apply q0|apply ps|apply q3|apply gp);apply r0)|(apply xst;apply r0;(with_reducible repeat first|assumption|apply q0|apply ps|apply q3|apply gp);apply r0)|apply w4|(apply w3;apply r0;apply r0))|(apply gW;first|apply w6|apply w7|(apply w8;apply r0)|apply wd)|apply w5|apply we
    exact rt2c (H' := H) rfl rfl (by apply q0) rfl (by rfl) rfl (by exact .pair (wk_agg rfl) (.refl _)) (by repeat first|exact s0|(apply su1;assumption)) (hK L ht)
  repeat first|(apply x1;apply r0;apply r0)|(apply x5;apply r0)|apply w4|(apply x6;apply r0;omega)|apply w5
  refine aw_cond rfl (fun g5 => ?_) (fun g5 => ?_)<;>first|replace g5:=of_decide_eq_true g5|replace g5:=of_decide_eq_false g5
  · rw [if_pos (show 48 - (b.size : Int) < off by omega)] at hR
    rw [hR] at hK
    repeat first|(apply gO;first|(apply x1;apply r0;apply r0)|(apply x2;apply r0;(with_reducible repeat first|assumption|apply q0|apply ps|apply q3|apply gp);apply r0)|(apply xst;apply r0;(with_reducible repeat first|assumption|apply q0|apply ps|apply q3|apply gp);apply r0)|apply w4)|(apply gW;first|apply w6|apply w7|apply wd)|apply w5|apply we
    exact rt2c (H' := H) rfl rfl (by apply q0) rfl (by rfl) rfl (by exact .pair (wk_agg rfl) (.refl _)) (by repeat first|exact s0|(apply su1;assumption)) (hK L ht)
  rw [if_neg (show ¬ 48 - (b.size : Int) < off by omega)] at hR
  have hh : T.has i = true := has_kind'.2 (by rw [g1']; decide)
  have hok := at_okG hg hh
  have hdat : (T.at i).data.size ≤ 48 := by
    have h := hok
    unfold nodeOk at h
    rw [if_pos g1'] at h
    simp only [Bool.and_eq_true, decide_eq_true_eq] at h
    exact h.2.2
  have hsz : (ofL (outL (T.at i).data b off.toNat)).size ≤ 48 := by
    show (List.toArray _).size ≤ 48
    rw [List.size_toArray, outL_len]; omega
  have hwk := wrote_ok (c := c) (d := ofL (outL (T.at i).data b off.toNat)) g1' hok hsz
  have hM : Tells (T.putE i (wrote c (T.at i) (ofL (outL (T.at i).data b off.toNat)))).1 (L.set (i - 1).toNat (wrote c (T.at i) (ofL (outL (T.at i).data b off.toNat)))) := by
    unfold Tab.putE
    rw [if_pos hh, if_pos hwk]
    exact tells_put ht hh (.inr hwk)
  have hrL := tells_rng ht hh
  have hmo := ok_file hok
  have hoe := outL_eq (T.at i).data b off.toNat
  rw [hR] at hK
  generalize hnd : T.at i = nd at *
  repeat first|(apply gO;first|(apply x1;apply r0;apply r0)|(apply x2;apply r0;(apply q0);apply r0)|apply w4)|(apply gW;first|apply w6|apply w7|apply wa|apply wb)|apply w5
  generalize hY : AHeap.put _ b12 _ = Y
  have yr5 : Rd Y b5 (encT L) := by rw [← hY]; exact (by apply rd_eq;(focus with_reducible repeat first|assumption|apply q0|apply q3);rfl)
  have yr6 : Rd Y b6 (encCred c) := by rw [← hY]; exact (by apply rd_eq;(focus with_reducible repeat first|assumption|apply q0|apply q3);rfl)
  have yr12 : Rd Y b12 (encM nd) := by rw [← hY]; exact (by apply rd_eq;(focus apply q0);rfl)
  have y10' : Y b10 = some (.cells [.sl [] .full]) := by rw [← hY]; exact (by apply get_eq;(focus with_reducible repeat first|assumption|apply ps|apply gp);rfl)
  have ys : H.sub Y := by rw [← hY]; exact (by repeat first|exact s0|(apply su1;assumption))
  have n105 : b10 ≠ b5 := by assumption
  have n106 : b10 ≠ b6 := by assumption
  have n1012 : b10 ≠ b12 := by assumption
  clear hY
  have hdl : (byL nd.data).length = nd.data.size := byL_len _
  refine aw_loop (fun j : Nat => j = 0 ∨ ((nd.data.size : Int) + (j : Int) ≤ off)) (fun j => [(2, .i i), (3, .i off), (4, .s b), (5, .ptr b5 0), (6, .ptr b6 0), (10, .ptr b10 0), (12, .ptr b12 0), (13, .s (ofL (padTo (byL nd.data) j)))]) (fun _ => Y) (fun j => off.toNat - j) 0 (.inl rfl) (by rw [show ofL (padTo (byL nd.data) 0) = nd.data by unfold padTo; simp [ofL_byL]]; exact (by repeat (first | exact Fr.sub_nil _ | refine Fr.sub_cons rfl ?_))) (AHeap.sub_refl _) ?_
  intro j hj
  have hpl := padTo_len (byL nd.data) j
  rw [hdl] at hpl
  repeat first|(apply x1;apply r0;apply r0)|apply w4|apply w6|apply w7|apply w5
  refine aw_cond rfl (fun c1 => ?_) (fun c1 => ?_)<;>first|replace c1:=of_decide_eq_true c1|replace c1:=of_decide_eq_false c1
  · have c1' : ((nd.data.size + j : Nat) : Int) < off := by rw [← hpl]; exact c1
    repeat first|(apply x1;apply r0;apply r0)|apply w7|apply wa|apply wb|apply w5
    refine s_cat rfl rfl rfl (by rw [hpl]; show nd.data.size + j + 1 ≤ _; omega) ?_
    rw [padTo_step]
    repeat first|(apply x1;apply r0;apply r0)|apply w4|apply w5|apply wg
    exact ⟨j + 1, by omega, by omega, (by repeat (first | exact Fr.sub_nil _ | refine Fr.sub_cons rfl ?_)), s0⟩
  have c1' : ¬ ((nd.data.size + j : Nat) : Int) < off := by rw [← hpl]; exact c1
  have hpd : padTo (byL nd.data) j = padL (byL nd.data) off.toNat := by
    unfold padTo padL
    rw [hdl, show j = off.toNat - nd.data.size by omega]
  rw [hpd] at hpl ⊢
  have hpL := pad_len (byL nd.data) off.toNat
  rw [hdl] at hpL
  generalize padL (byL nd.data) off.toNat = q at hoe hpl hpL ⊢
  have hq1 : (ofL q).size = q.length := by show (List.toArray _).size = _; rw [List.size_toArray]
  repeat first|(apply x1;apply r0;apply r0)|apply w6|apply w7|apply wc|apply w5|apply wf|apply wh
  refine s_slices (l := 0) (h := off) tk rfl rfl rfl rfl rfl (by omega) (by omega) (by rw [hq1]; omega) ?_
  rw [show (ofL q).extract (0 : Int).toNat off.toNat = ofL (q.take off.toNat) by rw [extract_eq, byL_ofL]; rfl]
  have ht1 : (ofL (q.take off.toNat)).size = off.toNat := by
    show (List.toArray _).size = _
    rw [List.size_toArray, List.length_take]; omega
  repeat (apply x1;apply r0;apply r0)
  refine s_cat rfl rfl rfl (by rw [ht1]; omega) ?_
  have ht2 : (ofL (q.take off.toNat) ++ b).size = off.toNat + b.size := by rw [ByteArray.size_append, ht1]
  have hout : ofL (outL nd.data b off.toNat) = ofL (q.take off.toNat) ++ b ++ ofL (q.drop (off.toNat + b.size)) := by
    rw [hoe, ← ofL_app, ← ofL_app, ofL_byL]
  repeat (apply gO;first|(apply x1;apply r0;apply r0)|((first|apply x2|apply xst);apply r0;(with_reducible repeat first|assumption|apply q0|apply ps|exact q1 ‹_›|exact q2 ‹_›|apply q4|apply pg|apply q3|apply gp|apply gq|exact n1 ‹_› ‹_›|exact n2 ‹_› ‹_›|exact n3 ‹_› ‹_›|exact n4 ‹_› ‹_›|apply nm1|exact nm0|exact mm0|apply mm1);apply r0)|((first|apply x3|apply x5|apply x8|apply xbd|apply xbs|apply x9);apply r0)|apply w4|(apply w3;apply r0;apply r0)|((first|apply x6|apply x7);apply r0;omega))
  first | apply w7 | apply w5 | apply wl | apply wg | apply we | apply wf | apply wh | apply wj | apply wm | apply wn | apply wa | apply wd | apply wb | apply wc | apply wk
  apply w6
  refine aw_cutS (fun F' H' => Fr.sub [(2, .i i), (5, .ptr b5 0), (6, .ptr b6 0), (10, .ptr b10 0), (12, .ptr b12 0), (14, .s (ofL (outL nd.data b off.toNat)))] F' ∧ Y.sub H') ?_ ?_
  · repeat first|(apply x1;apply r0;apply r0)|apply w4|apply w6|apply w7|apply w5
    refine aw_cond rfl (fun c3 => ?_) (fun c3 => ?_)<;>first|replace c3:=of_decide_eq_true c3|replace c3:=of_decide_eq_false c3
    · have c3' : ((off.toNat + b.size : Nat) : Int) < (q.length : Int) := by rw [← ht2, ← hq1]; exact c3
      repeat first|(apply x1;apply r0;apply r0)|apply w7
      refine s_slices (l := (((ofL (q.take off.toNat) ++ b).size : Nat) : Int)) (h := ((ofL q).size : Int)) tk rfl rfl rfl rfl rfl (by omega) (by rw [ht2, hq1]; omega) (Int.le_refl _) ?_
      rw [show (ofL q).extract (((ofL (q.take off.toNat) ++ b).size : Nat) : Int).toNat (((ofL q).size : Nat) : Int).toNat = ofL (q.drop (off.toNat + b.size)) by
        rw [Int.toNat_natCast, Int.toNat_natCast, ht2, hq1, extract_eq, byL_ofL, List.take_length]]
      skip
      refine s_cat rfl rfl rfl (by rw [ht2]; show _ + (List.toArray _).size ≤ _; rw [List.size_toArray, List.length_drop]; omega) ?_
      rw [← hout]
      repeat first|(apply x1;apply r0;apply r0)|apply w4|apply w5
      exact ⟨(by repeat (first | exact Fr.sub_nil _ | refine Fr.sub_cons rfl ?_)), AHeap.sub_refl _⟩
    · have c3' : ¬ ((off.toNat + b.size : Nat) : Int) < (q.length : Int) := by rw [← ht2, ← hq1]; exact c3
      have he : q.drop (off.toNat + b.size) = [] := List.drop_eq_nil_of_le (by omega)
      rw [he, show ofL ([] : List UInt8) = ByteArray.empty from rfl, ByteArray.append_empty] at hout
      rw [← hout]
      repeat first|apply wa|apply w5
      exact ⟨(by repeat (first | exact Fr.sub_nil _ | refine Fr.sub_cons rfl ?_)), AHeap.sub_refl _⟩
  rintro F' H' ⟨hF, hH⟩
  refine AW_sub ?_ hF hH
  clear hF hH
  repeat apply w6
  refine aw_prot [b5, b6, b12] (allc (by with_reducible assumption) (allc (by with_reducible assumption) (allc (by with_reducible assumption) (allc0 _)))) ?_
  refine aw_plan mixed (.take 0 (.take 1 (.take 2 (.take 3 (.take 4 (.one 5 (.one 6 (.one 7 (.take 8 .done))))))))) (by kernel_rfl) ?_
  repeat first|(apply x9;apply r0)|(apply y1;apply r0;apply r0)|(apply y4;apply r0)|(apply y2;apply r0;apply r0;(with_reducible repeat first|assumption|apply pg|exact mm0|apply mm1);apply r0)
  refine rwrote_c hc (by unfold in64; omega) ?_
  repeat first|(apply x9;apply r0)|apply w4|(apply y4;apply r0)
  refine rwith_c hrL (Nat.le_trans ht.rel.most (by decide)) ?_
  repeat first|(apply xst;apply r0;(with_reducible repeat first|assumption|apply gq|apply nm1|exact nm0);apply r0)|apply w4|(apply y1;apply r0;apply r0)|apply y0|(apply y4;apply r0)
  refine prot_done_put (by simp only [List.mem_cons,List.not_mem_nil,or_false,not_or]; first|exact (by first|assumption|exact n1 ‹_› ‹_›|exact n2 ‹_› ‹_›|exact n3 ‹_› ‹_›|exact n4 ‹_› ‹_›)|exact ⟨(by first|assumption|exact n1 ‹_› ‹_›|exact n2 ‹_› ‹_›|exact n3 ‹_› ‹_›|exact n4 ‹_› ‹_›),(by first|assumption|exact n1 ‹_› ‹_›|exact n2 ‹_› ‹_›|exact n3 ‹_› ‹_›|exact n4 ‹_› ‹_›)⟩|exact ⟨(by first|assumption|exact n1 ‹_› ‹_›|exact n2 ‹_› ‹_›|exact n3 ‹_› ‹_›|exact n4 ‹_› ‹_›),(by first|assumption|exact n1 ‹_› ‹_›|exact n2 ‹_› ‹_›|exact n3 ‹_› ‹_›|exact n4 ‹_› ‹_›),(by first|assumption|exact n1 ‹_› ‹_›|exact n2 ‹_› ‹_›|exact n3 ‹_› ‹_›|exact n4 ‹_› ‹_›)⟩) ?_
  repeat first|apply wd|apply w5
  exact rt2c (H' := H) rfl rfl (by apply q0) rfl (by rfl) rfl (by exact .pair (wk_agg rfl) (.refl _)) (by repeat first|assumption|(apply su1;assumption)) (hK _ hM)
end Abs
end Go.Proofs.YtpifnlodilcgkaaGreat
