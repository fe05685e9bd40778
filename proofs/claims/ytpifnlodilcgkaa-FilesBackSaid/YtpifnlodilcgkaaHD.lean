import Derived.Test.YtpifnlodilcgkaaHB
set_option linter.unusedVariables false
namespace Go.Proofs.Ytpifnlodilcgkaa
namespace Abs
/-! ### files: what is written, plain part -/
def cpL (l : List UInt8) (off : Nat) (b : List UInt8) : List UInt8 := l.take off ++ b ++ l.drop (off + b.length)
def outL (d b : ByteArray) (off : Nat) : List UInt8 := cpL (cpL (List.replicate (max d.size (off + b.size)) 0) 0 (byL d)) off (byL b)
def Tab.writeF (T : Tab) (c : Cred) (i off : Int) (b : ByteArray) : Tab × Int :=
  if ¬ (T.at i).kind = 1 then (T, 9) else if off < 0 then (T, 22) else if (b.size : Int) = 0 then (T, 0) else if 48 - (b.size : Int) < off then (T, 27)
  else ((T.putE i (wrote c (T.at i) (ofL (outL (T.at i).data b off.toNat)))).1, 0)
theorem good_writeF {T : Tab} (h : T.good) (c : Cred) (i off : Int) (b : ByteArray) : (T.writeF c i off b).1.good := by
  unfold Tab.writeF
  split
  · exact h
  split
  · exact h
  split
  · exact h
  split
  · exact h
  exact good_putE h _ _
def u8c (l : List UInt8) : List AVal := l.map fun c => .sc (.int .u8 c.toNat)
theorem u8c_flat (s : ByteArray) : (encBytes s).flatten = u8c (byL s) := by rw [encBytes, flatten_single]; rfl
theorem u8c_flatL (l : List UInt8) : (encBytes (ofL l)).flatten = u8c l := by rw [u8c_flat, byL_ofL]
theorem u8c_len (l : List UInt8) : (u8c l).length = l.length := by simp [u8c]
theorem u8c_rep (m : Nat) : rep m [.sc (.int .u8 0)] = u8c (List.replicate m 0) := by
  unfold rep u8c
  rw [List.map_replicate]
  induction m with
  | zero => rfl
  | succ m ih => rw [List.replicate_succ, List.flatten_cons, ih, List.replicate_succ]; rfl
theorem u8c_cp (l : List UInt8) (off : Nat) (d : ByteArray) : (u8c l).take off ++ (encBytes d).flatten.take ((encBytes d).length * 1) ++ (u8c l).drop (off + (encBytes d).length * 1) = u8c (cpL l off (byL d)) := by
  rw [u8c_flat, encBytes_len, Nat.mul_one, ← byL_len, List.take_of_length_le (l := u8c (byL d)) (i := (byL d).length) (by rw [u8c_len]; exact Nat.le_refl _)]
  unfold cpL u8c
  rw [List.map_append, List.map_append, List.map_take, List.map_drop]
theorem cpL_len {l : List UInt8} {off : Nat} {b : List UInt8} (h : off + b.length ≤ l.length) : (cpL l off b).length = l.length := by
  unfold cpL
  rw [List.length_append, List.length_append, List.length_take, List.length_drop]; omega
theorem outL_len (d b : ByteArray) (off : Nat) : (outL d b off).length = max d.size (off + b.size) := by
  unfold outL
  have h1 : (cpL (List.replicate (max d.size (off + b.size)) (0 : UInt8)) 0 (byL d)).length = max d.size (off + b.size) := by
    rw [cpL_len (by rw [byL_len, List.length_replicate]; omega), List.length_replicate]
  rw [cpL_len (by rw [h1, byL_len]; omega), h1]
theorem del_put_sub {X : AHeap} {b : Nat} {C : HObj} (h : X b = none) : X.sub ((X.put b C).del b) := fun x o hx => by
  have hne : x ≠ b := fun e => by rw [e, h] at hx; cases hx
  exact ⟨o, by simp [AHeap.del, put_ne hne, hne, hx], .refl o⟩
end Abs
end Go.Proofs.Ytpifnlodilcgkaa

set_option linter.unusedVariables false
namespace Go.Proofs.Ytpifnlodilcgkaa
namespace Abs
set_option linter.unusedSimpArgs false
set_option maxRecDepth 10000
set_option maxHeartbeats 2000000
attribute [local irreducible] AOps AW AP ACalls thenQ inBlk noGoto

/-! ### package files: WriteAt -/
theorem writeAt_c {t : Nat} {T : Tab} (hg : T.good) {c : Cred} (hc : c.small) {i off : Int} {b : ByteArray} (hb0 : b.size ≤ 9223372036854775807) {o : Own} {H : AHeap} (hT : H t = some (.cells (encTab T)))
    {K : AVal → AHeap → Prop} (hK : K (.i (T.writeF c i off b).2) (H.put t (.cells (encTab (T.writeF c i off b).1)))) :
    ACalls Try.prog 16 [.ptr t 0, .agg (encCred c), .i i, .i off, .sl (encBytes b) o] H K := by
  refine acalls_body Try.func16 rfl rfl rfl ?_
  have hw := hg.wf
  have hf := at_few hg i
  have hlb := encBytes_len b
  obtain ⟨R, hR⟩ : ∃ R, R = T.writeF c i off b := ⟨_, rfl⟩
  rw [← hR] at hK
  unfold Tab.writeF at hR
  repeat first|apply w6|apply w7
  refine s_box rfl rfl rfl (fun b6 hb6 => ?_); have hb := hb6; (try simp only [put_none_iff, prot_none_iff] at hb); (repeat obtain ⟨_, _, hb⟩ := hb)
  repeat first|(apply x1;apply r0;apply r0)|(apply x9;apply r0)|apply w4|apply w6|apply w7|apply w5
  refine ffile_c hw (by with_reducible repeat first|exact q1 ‹_›|apply q3|exact n2 ‹_› ‹_›) ?_
  generalize T.at i = nd at hR hf ⊢
  have hl := encBytes_len nd.data
  have hf2 := hf.2.1
  repeat (apply x1;apply r0;apply r0)
  refine s_alloc tk rfl rfl rfl (fun b11 hb11 => ?_); have hb := hb11; (try simp only [put_none_iff, prot_none_iff] at hb); (repeat obtain ⟨_, _, hb⟩ := hb)
  repeat first|(apply x1;apply r0;apply r0)|(apply xst;apply r0;(apply ps);apply r0)|apply w4|apply w6|apply w7|apply wb|apply w5
  refine aw_cond rfl (fun g1 => ?_) (fun g1 => ?_)<;>first|replace g1:=not_t g1|replace g1:=not_f g1
  · rw [if_pos g1] at hR
    rw [hR, put_id hT] at hK
    repeat first|(apply gO;first|(apply x1;apply r0;apply r0)|apply w4)|(apply gW;first|apply w6|apply w7|apply wd)|apply w5|apply we|apply wj
    exact rt1 (H' := H) rfl rfl (.refl _) (by repeat first|exact s0|(apply su1;assumption)) hK
  rw [if_neg (fun q => q g1)] at hR
  repeat first|(apply x1;apply r0;apply r0)|apply w4|apply w6|apply w7|apply w5
  refine aw_cond rfl (fun g2 => ?_) (fun g2 => ?_)<;>first|replace g2:=of_decide_eq_true g2|replace g2:=of_decide_eq_false g2
  · rw [if_pos g2] at hR
    rw [hR, put_id hT] at hK
    repeat first|(apply gO;first|(apply x1;apply r0;apply r0)|apply w4)|(apply gW;first|apply w6|apply w7|apply wd)|apply w5|apply we|apply wj
    exact rt1 (H' := H) rfl rfl (.refl _) (by repeat first|exact s0|(apply su1;assumption)) hK
  rw [if_neg g2] at hR
  repeat first|(apply x1;apply r0;apply r0)|apply w4|apply w6|apply w7|apply w5
  refine aw_cond rfl (fun g3 => ?_) (fun g3 => ?_)<;>first|replace g3:=of_decide_eq_true g3|replace g3:=of_decide_eq_false g3
  · rw [hlb] at g3
    rw [if_pos g3] at hR
    rw [hR, put_id hT] at hK
    repeat first|(apply gO;first|(apply x1;apply r0;apply r0)|apply w4)|(apply gW;first|apply w6|apply w7|apply wd)|apply w5|apply we|apply wj
    exact rt1 (H' := H) rfl rfl (.refl _) (by repeat first|exact s0|(apply su1;assumption)) hK
  rw [hlb] at g3
  rw [if_neg g3] at hR
  repeat first|(apply x1;apply r0;apply r0)|apply w4|(apply x7;apply r0;omega)|apply w6|apply w7|apply w5
  refine aw_cond rfl (fun g4 => ?_) (fun g4 => ?_)<;>first|replace g4:=of_decide_eq_true g4|replace g4:=of_decide_eq_false g4
  · rw [hlb] at g4
    rw [if_pos g4] at hR
    rw [hR, put_id hT] at hK
    repeat first|(apply gO;first|(apply x1;apply r0;apply r0)|apply w4)|(apply gW;first|apply w6|apply w7|apply wd)|apply w5|apply we|apply wj
    exact rt1 (H' := H) rfl rfl (.refl _) (by repeat first|exact s0|(apply su1;assumption)) hK
  rw [hlb] at g4
  rw [if_neg g4] at hR
  rw [hR] at hK
  repeat first|(apply gO;first|(apply x1;apply r0;apply r0)|(apply x2;apply r0;(apply q0);apply r0)|(apply x6;apply r0;omega))|(apply gW;first|apply w6|apply w7|apply wa)|apply w5|apply wg
  have hoL := outL_len nd.data b off.toNat
  have h48 : (b.size : Int) ≤ 48 := by omega
  obtain ⟨M, hM⟩ : ∃ M : Nat, M = max nd.data.size (off.toNat + b.size) := ⟨_, rfl⟩
  rw [hlb, hl, show (if off + (b.size : Int) > (nd.data.size : Int) then off + (b.size : Int) else (nd.data.size : Int)) = (M : Int) by rw [hM]; split <;> omega]
  generalize hX : AHeap.put _ b11 _ = X
  have xT : X t = some (.cells (encTab T)) := by rw [← hX]; exact (by apply get_eq;(focus with_reducible repeat first|assumption|apply gp|exact n2 ‹_› ‹_›);rfl)
  have xr6 : Rd X b6 (encCred c) := by rw [← hX]; exact (by apply rd_eq;(focus with_reducible repeat first|assumption|apply q0|apply q3);rfl)
  have xr11 : Rd X b11 (encNode nd) := by rw [← hX]; exact (by apply rd_eq;(focus apply q0);rfl)
  have xss : H.sub X := by rw [← hX]; exact (by repeat first|exact s0|(apply su1;assumption))
  clear hX
  refine s_make (cs := [.sc (.int .u8 0)]) tk rfl rfl rfl rfl rfl rfl (by omega) (Int.le_refl _) (by omega) (fun b13 h13 => ?_)
  rw [Int.toNat_natCast, u8c_rep]
  have nt13 : t ≠ b13 := get_ne xT h13
  have n613 : b6 ≠ b13 := rd_ne xr6 h13
  have n1113 : b11 ≠ b13 := rd_ne xr11 h13
  have hr0 : (u8c (List.replicate M (0 : UInt8))).length = M := by rw [u8c_len, List.length_replicate]
  repeat first|(apply x1;apply r0;apply r0)|(apply x2;apply r0;(with_reducible repeat first|assumption|apply q3);apply r0)|apply w4|apply w6|apply w7|apply w5
  refine s_copyk (k := (encBytes nd.data).length) tk rfl rfl rfl (put_same _ _ _) rfl (uni_bytes _) (flat_bytes _) (by rw [hl, hM]; omega) (by rw [hr0, hl, hM]; omega) ?_
  rw [u8c_cp, put_put]
  have hr1 : (u8c (cpL (List.replicate M (0 : UInt8)) 0 (byL nd.data))).length = M := by
    rw [u8c_len, cpL_len (by rw [byL_len, List.length_replicate, hM]; omega), List.length_replicate]
  repeat first|(apply x1;apply r0;apply r0)|apply w4|apply w6|apply w7|apply w5
  refine s_slicerow (l := off) tk rfl rfl rfl rfl (by omega) (by omega) (Nat.le_refl _) ?_
  repeat (apply x1;apply r0;apply r0)
  refine s_copyk (k := (encBytes b).length) tk rfl rfl rfl (put_same _ _ _) rfl (uni_bytes _) (flat_bytes _) (by rw [hlb, hM]; omega) (by rw [hr1, hlb, hM]; omega) ?_
  rw [show 0 + off.toNat * 1 = off.toNat by omega, u8c_cp, put_put, show cpL (cpL (List.replicate M (0 : UInt8)) 0 (byL nd.data)) off.toNat (byL b) = outL nd.data b off.toNat from by unfold outL; rw [hM]]
  have hn48 := hoL
  rw [← hM] at hn48
  refine aops_close (d := 13) (rows := encBytes (ofL (outL nd.data b off.toNat))) (es := 1) rfl (put_same _ _ _) (by decide) (uni_bytes _) (by rw [encB_ofL, List.length_map, hn48]) (by rw [List.drop_zero, Nat.mul_one, u8c_flatL, List.take_of_length_le (by rw [u8c_len, hn48]; exact Nat.le_refl _)]) (by omega) (Nat.le_refl _) (by rw [u8c_len, hn48]; omega) ?_
  have xsd : (H.del t).sub X := AHeap.del_sub xss t
  refine AOps_sub ?_ (Fr.sub_refl _) (del_put_sub (C := .cells (u8c (outL nd.data b off.toNat))) h13)
  have hsz : (ofL (outL nd.data b off.toNat)).size ≤ 1000 := by
    show (outL nd.data b off.toNat).toArray.size ≤ 1000
    rw [List.size_toArray, hn48]; omega
  repeat first|(apply x1;apply r0;apply r0)|(apply x2;apply r0;(with_reducible assumption);apply r0)|(apply x9;apply r0)|apply w4|apply w6|apply w7|apply w5
  refine fwritten_c (n := nd) hw hc (show (wrote c nd (ofL (outL nd.data b off.toNat))).small from ⟨by show (ofL (outL nd.data b off.toNat)).size ≤ _; omega, hf.small.2⟩) (by with_reducible assumption) ?_
  repeat first|(apply x1;apply r0;apply r0)|apply w4|apply w6|apply w7|apply wd|apply w5
  exact rt1 (H' := H.put t (.cells (encTab (T.putE i (wrote c nd (ofL (outL nd.data b off.toNat)))).1))) rfl rfl (.refl _) (by repeat first|assumption|apply put_sub') hK
end Abs
end Go.Proofs.Ytpifnlodilcgkaa
