import Derived.Test.YtpifnlodilcgkaaIP
import Derived.Test.YtpifnlodilcgkaaL10
import Derived.Test.YtpifnlodilcgkaaIM
import Derived.Test.YtpifnlodilcgkaaXH
set_option linter.unusedVariables false
namespace Go.Proofs.Ytpifnlodilcgkaa
namespace Abs
set_option linter.unusedSimpArgs false
set_option maxRecDepth 10000
set_option maxHeartbeats 2000000
attribute [local irreducible] AOps AW AP ACalls thenQ inBlk noGoto

/-! ### the document's chapter 10: Build, and the tree of a table -/
end Abs
end Go.Proofs.Ytpifnlodilcgkaa

set_option linter.unusedVariables false
namespace Go.Proofs.Ytpifnlodilcgkaa
namespace Abs
set_option linter.unusedSimpArgs false
set_option maxRecDepth 10000
set_option maxHeartbeats 2000000
attribute [local irreducible] AOps AW AP ACalls thenQ inBlk noGoto

theorem tree10_c {t : Nat} {T : Tab} (hg : T.good) {H : AHeap} (hT : Rd H t (encTab T)) {K : AVal → AHeap → Prop} (hK : ∀ L, Tells T L → L.length = 24 → K (.agg (encT L)) H) : ACalls Try.prog 28 [.ptr t 0] H K := by
  refine acalls_body Try.func28 rfl rfl rfl ?_
  have hw := hg.wf
  have h24 := hw.2.1
  repeat first|apply w6|apply w7
  refine s_alloc tk rfl rfl rfl (fun b2 hb2 => ?_); have hb := hb2; (try simp only [put_none_iff, prot_none_iff] at hb); (repeat obtain ⟨_, _, hb⟩ := hb)
  repeat first|(apply x9;apply r0)|apply w4|apply w6|apply w7|apply w5
  refine rnew_c ?_
  rw [show (min (max (24 : Int) 1) 24).toNat = 24 by decide, ← upto_zero T]
  skip
  refine s_alloc tk rfl rfl rfl (fun b3 hb3 => ?_); have hb := hb3; (try simp only [put_none_iff, prot_none_iff] at hb); (repeat obtain ⟨_, _, hb⟩ := hb)
  (apply xst;apply r0;(apply ps);apply r0)
  rw [put_put]
  have n3 : t ≠ b3 := rd_ne hT hb
  have n2 : t ≠ b2 := rd_ne hT (by assumption)
  have n32 : b2 ≠ b3 := by assumption
  have f3 : H b3 = none := hb
  have f2 : H b2 = none := by assumption
  generalize hX : AHeap.put H b2 _ = X
  have xT : Rd X t (encTab T) := by rw [← hX]; exact (by with_reducible repeat first|assumption|apply q3)
  have x2' : X b2 = some (.cells [.sl [] .full]) := by rw [← hX]; exact (by apply get_eq;(focus apply ps);rfl)
  have xs : H.sub X := by rw [← hX]; exact (by repeat first|exact s0|(apply su1;assumption))
  have x3' : X b3 = none := by rw [← hX, put_ne n32.symm]; exact f3
  clear hX
  repeat first|(apply x1;apply r0;apply r0)|apply w4|apply w6|apply w7|apply wb|apply w5
  refine aw_loop (fun k : Nat => k ≤ 24) (fun k => [(0, .ptr t 0), (2, .ptr b2 0), (3, .ptr b3 0), (4, .i ((k : Int) + 1))]) (fun k => X.put b3 (.cells (encT (upto T k)))) (fun k => 24 - k) 0 (Nat.zero_le _) (by repeat (first | exact Fr.sub_nil _ | refine Fr.sub_cons rfl ?_)) (AHeap.sub_refl _) ?_
  intro k hk
  repeat first|(apply x1;apply r0;apply r0)|apply w4|apply w6|apply w7|apply w5
  refine aw_cond rfl (fun c => ?_) (fun c => ?_)<;>first|replace c:=of_decide_eq_true c|replace c:=of_decide_eq_false c
  case refine_2 =>
    have : k = 24 := by omega
    subst this
    repeat first|(apply gO;first|(apply x2;apply r0;(with_reducible repeat first|assumption|apply q0|apply gp);apply r0)|(apply xst;apply r0;(with_reducible repeat first|assumption|apply q0|apply gp);apply r0)|apply w4)|(apply gW;first|apply w6|apply w7|apply wd|apply wc)|apply w5|apply wf|apply wh
    exact rt1c (H' := H) rfl rfl (by apply q0) rfl (by rfl) (by exact .refl _) (by repeat first|assumption|(apply su1;assumption)) (hK _ ⟨upto_rel hw, hg⟩ (upto_len _ _))
  repeat first|(apply x1;apply r0;apply r0)|(apply x9;apply r0)|apply w6|apply w7|apply wa|apply wb|apply w5
  refine tget_c hw (by with_reducible repeat first|assumption|apply q3) ?_
  rw [← nd_at]
  repeat (apply x1;apply r0;apply r0)
  refine s_alloc tk rfl rfl rfl (fun b5 hb5 => ?_); have hb := hb5; (try simp only [put_none_iff, prot_none_iff] at hb); (repeat obtain ⟨_, _, hb⟩ := hb)
  (apply xst;apply r0;(apply ps);apply r0)
  rw [put_put]
  have n5 : b3 ≠ b5 := by assumption
  cases hh : T.has ((k : Int) + 1) with
  | false =>
    have hz : T.nd k = Node.zero := by unfold Tab.nd; rw [hh]; rfl
    repeat first|(apply gO;first|(apply x1;apply r0;apply r0)|apply w4|(apply x6;apply r0;omega))|(apply gW;first|apply w6|apply w7|(apply w9;apply r0)|apply wa)|apply w5|apply wg
    refine ⟨k + 1, by omega, by omega, (by repeat (first | exact Fr.sub_nil _ | refine Fr.sub_cons rfl ?_)), ?_⟩
    rw [upto_same hz]
    exact (by repeat first|exact s0|(apply su1;assumption))
  | true =>
    have hnd : T.nd k = T.nd k := rfl
    have hsm : (T.nd k).small := nd_small hw k
    repeat first|(apply x1;apply r0;apply r0)|apply w4|apply w6|apply w7|(apply w8;apply r0)|apply w5
    refine aw_prot [b5] (allc (by apply q0) (allc0 _)) ?_
    refine aw_plan mixed (.take 1 (.take 2 (.two 0 3 (.one 3 (.one 4 (.one 5 .done))) (.one 0 (.one 4 (.one 5 .done)))))) (by kernel_rfl) ?_
    repeat first|(apply y1;apply r0;apply r0)|(apply y2;apply r0;apply r0;(with_reducible repeat first|apply q0|apply pg|exact mm0);apply r0)
    refine e_two rfl rfl ?_ ?_
    · repeat first|(apply x2;apply r0;(with_reducible repeat first|assumption|apply q0|apply q4|apply q3);apply r0)|(apply x9;apply r0)|apply w4|(apply y4;apply r0)
      refine model10_c hsm ?_
      repeat first|(apply x9;apply r0)|apply w4|(apply y4;apply r0)
      refine rwith_c (by rw [upto_len]; omega) (by rw [upto_len]; omega) ?_
      rw [show ((k : Int) + 1 - 1).toNat = k by omega, hnd, upto_succ T (by omega)]
      repeat first|(apply xst;apply r0;(with_reducible repeat first|assumption|apply ps|apply gp|apply gq|apply nm1|exact nm0);apply r0)|apply w4|apply y0|(apply y4;apply r0)
      refine prot_done_put (by simp only [List.mem_cons,List.not_mem_nil,or_false,not_or]; first|exact (by first|assumption|exact n1 ‹_› ‹_›|exact n2 ‹_› ‹_›|exact n3 ‹_› ‹_›|exact n4 ‹_› ‹_›)|exact ⟨(by first|assumption|exact n1 ‹_› ‹_›|exact n2 ‹_› ‹_›|exact n3 ‹_› ‹_›|exact n4 ‹_› ‹_›),(by first|assumption|exact n1 ‹_› ‹_›|exact n2 ‹_› ‹_›|exact n3 ‹_› ‹_›|exact n4 ‹_› ‹_›)⟩|exact ⟨(by first|assumption|exact n1 ‹_› ‹_›|exact n2 ‹_› ‹_›|exact n3 ‹_› ‹_›|exact n4 ‹_› ‹_›),(by first|assumption|exact n1 ‹_› ‹_›|exact n2 ‹_› ‹_›|exact n3 ‹_› ‹_›|exact n4 ‹_› ‹_›),(by first|assumption|exact n1 ‹_› ‹_›|exact n2 ‹_› ‹_›|exact n3 ‹_› ‹_›|exact n4 ‹_› ‹_›)⟩) ?_
      repeat first|(apply x1;apply r0;apply r0)|apply w4|(apply x6;apply r0;omega)|apply w7|apply w5|apply wg
      exact ⟨k + 1, by omega, by omega, (by repeat (first | exact Fr.sub_nil _ | refine Fr.sub_cons rfl ?_)), (by repeat first|exact s1|(apply su2;assumption)|apply put_sub')⟩
    · repeat (apply x9;apply r0)
      refine model10_c hsm ?_
      repeat first|(apply x2;apply r0;(with_reducible repeat first|assumption|apply q0|apply q4|apply q3);apply r0)|(apply x9;apply r0)|apply w4|(apply y4;apply r0)
      refine rwith_c (by rw [upto_len]; omega) (by rw [upto_len]; omega) ?_
      rw [show ((k : Int) + 1 - 1).toNat = k by omega, hnd, upto_succ T (by omega)]
      repeat first|(apply xst;apply r0;(with_reducible repeat first|assumption|apply ps|apply gp|apply gq|apply nm1|exact nm0);apply r0)|apply w4|apply y0|(apply y4;apply r0)
      refine prot_done_put (by simp only [List.mem_cons,List.not_mem_nil,or_false,not_or]; first|exact (by first|assumption|exact n1 ‹_› ‹_›|exact n2 ‹_› ‹_›|exact n3 ‹_› ‹_›|exact n4 ‹_› ‹_›)|exact ⟨(by first|assumption|exact n1 ‹_› ‹_›|exact n2 ‹_› ‹_›|exact n3 ‹_› ‹_›|exact n4 ‹_› ‹_›),(by first|assumption|exact n1 ‹_› ‹_›|exact n2 ‹_› ‹_›|exact n3 ‹_› ‹_›|exact n4 ‹_› ‹_›)⟩|exact ⟨(by first|assumption|exact n1 ‹_› ‹_›|exact n2 ‹_› ‹_›|exact n3 ‹_› ‹_›|exact n4 ‹_› ‹_›),(by first|assumption|exact n1 ‹_› ‹_›|exact n2 ‹_› ‹_›|exact n3 ‹_› ‹_›|exact n4 ‹_› ‹_›),(by first|assumption|exact n1 ‹_› ‹_›|exact n2 ‹_› ‹_›|exact n3 ‹_› ‹_›|exact n4 ‹_› ‹_›)⟩) ?_
      repeat first|(apply x1;apply r0;apply r0)|apply w4|(apply x6;apply r0;omega)|apply w7|apply w5|apply wg
      exact ⟨k + 1, by omega, by omega, (by repeat (first | exact Fr.sub_nil _ | refine Fr.sub_cons rfl ?_)), (by repeat first|exact s1|(apply su2;assumption)|apply put_sub')⟩
end Abs
end Go.Proofs.Ytpifnlodilcgkaa
