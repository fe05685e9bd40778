import Derived.Test.YtkopeigfjjbajaaGreatY9
set_option linter.unusedVariables false
namespace Go.Proofs.YtkopeigfjjbajaaGreat
namespace Abs
set_option linter.unusedSimpArgs false
set_option maxRecDepth 10000
set_option maxHeartbeats 2000000
attribute [local irreducible] AOps AW AP ACalls thenQ inBlk noGoto

/-! ### LookLists -/
theorem sameTo_self (T : Tab) : ∀ k : Nat, T.sameTo T k = true
  | 0 => rfl
  | k + 1 => by rw [Tab.sameTo, sameTo_self T k, same_refl]; rfl
theorem same_self (T : Tab) : T.same T = true := sameTo_self T 24
theorem list_len {T : Tab} (hg : T.good) (c : Cred) (path : ByteArray) : (T.list c path).1.length ≤ 1073741824 := by
  unfold Tab.list
  split
  · exact Nat.zero_le _
  · split
    · exact Nat.zero_le _
    · split
      · exact Nat.zero_le _
      · rw [sortB_len]
        have := (at_few hg (T.look c path true).1.node).small.2
        simpa [entNames] using this
theorem lookLists_c {room : Int} {l : List Raw} (hl : l.length ≤ 9223372036854775807) {c : Cred} {path : ByteArray} {H : AHeap} {K : AVal → AHeap → Prop} (hK : K (.b true) H) :
    ACalls Tryz.prog 4 [.i room, .sl (encRaws l) .no, .agg (encCred c), .s path] H K := by
  refine acalls_body Tryz.func4 rfl rfl rfl ?_
  repeat first|apply w6|apply w7
  refine s_box rfl rfl rfl (fun b6 hb6 => ?_); have hb := hb6; (try simp only [put_none_iff, prot_none_iff] at hb); (repeat obtain ⟨_, _, hb⟩ := hb)
  repeat first|(apply x1;apply r0;apply r0)|(apply x9;apply r0)|apply w4|apply w6|apply w7|apply w5
  refine awake12_c ?_
  repeat first|(apply gO;first|(apply x1;apply r0;apply r0)|(apply x2;apply r0;(apply q0);apply r0)|(apply x9;apply r0)|apply w4)|(apply gW;first|apply w6|apply w7|(apply w9;apply r0)|apply wa)|apply w5
  refine built12_c hl ?_ (fun T t hB ht => ?_)
  · repeat first|(apply gO;first|(apply x1;apply r0;apply r0)|apply w4|(apply w3;apply r0;apply r0))|(apply gW;first|apply w6|apply w7|(apply w8;apply r0)|apply wd)|apply w5|apply we
    exact rt1 (H' := H) rfl rfl (.refl _) (by repeat first|exact s0|(apply su1;assumption)) hK
  have hg := hB.good
  have hc := hB.small
  have htr := build_tree hB.tree
  have nb7 : b6 ≠ t := by
    have := (put_none_iff.1 ht)
    exact this.2.1
  have ht' : H t = none := (put_none_iff.1 ht).2.2
  repeat first|(apply x1;apply r0;apply r0)|(apply x5;apply r0)|apply w4|apply w6|apply w7|apply w5
  refine aw_cond rfl (fun g1 => ?_) (fun g1 => ?_)<;>first|replace g1:=of_decide_eq_true g1|replace g1:=of_decide_eq_false g1
  · repeat first|(apply x1;apply r0;apply r0)|apply w4|apply w6|apply w7|apply wd|apply w5|apply we
    exact rt1 (H' := H) rfl rfl (.refl _) (by repeat first|exact s0|(apply su1;assumption)) hK
  repeat first|(apply x1;apply r0;apply r0)|(apply x9;apply r0)|apply w6|apply w7|apply wa|apply w5
  refine tree12_c hg (by apply q0) (fun L hL hLl => ?_)
  skip
  refine s_alloc tk rfl rfl rfl (fun b12 hb12 => ?_); have hb := hb12; (try simp only [put_none_iff, prot_none_iff] at hb); (repeat obtain ⟨_, _, hb⟩ := hb)
  repeat first|(apply x1;apply r0;apply r0)|(apply xst;apply r0;(apply ps);apply r0)|(apply x9;apply r0)|apply w4|apply w6|apply w7|apply w5
  refine clone_c hg.wf (by with_reducible repeat first|assumption|apply q0|apply q3) (fun u hu => ?_)
  generalize hY : AHeap.put _ b12 _ = Y at hu ⊢
  have y12 : Rd Y b12 (encT L) := by rw [← hY]; exact (by apply rd_eq;(focus apply q0);rfl)
  have y6' : Rd Y b6 (encCred c) := by rw [← hY]; exact (by apply rd_eq;(focus with_reducible repeat first|assumption|apply q0|apply q3);rfl)
  have yT : Rd Y t (encTab T) := by rw [← hY]; exact (by apply rd_eq;(focus with_reducible repeat first|assumption|apply q0|apply q3);rfl)
  have ys : H.sub Y := by rw [← hY]; exact (by repeat first|exact s0|(apply su1;assumption))
  clear hY
  have fu : H u = none := sub_none ys hu
  have ntu : t ≠ u := rd_ne yT hu
  have n12u : b12 ≠ u := rd_ne y12 hu
  have n6u : b6 ≠ u := rd_ne y6' hu
  repeat first|(apply x1;apply r0;apply r0)|(apply x2;apply r0;(with_reducible repeat first|assumption|apply q3);apply r0)|(apply x9;apply r0)|apply w4|apply w6|apply w7|apply w5
  refine readlink_c hg hc (by with_reducible repeat first|assumption|apply q3) ?_
  repeat first|(apply x1;apply r0;apply r0)|apply w4|apply w6|apply w5
  refine aw_prot [b6, b12] (allc (by with_reducible repeat first|assumption|apply q3) (allc (by with_reducible repeat first|assumption|apply q3) (allc0 _))) ?_
  refine aw_plan mixed (.take 0 (.take 1 (.take 3 (.one 2 (.one 4 (.take 5 (.take 6 (.take 7 (.take 8 (.take 9 .done)))))))))) (by kernel_rfl) ?_
  repeat first|(apply x9;apply r0)|(apply y1;apply r0;apply r0)|(apply y4;apply r0)|(apply y2;apply r0;apply r0;(with_reducible repeat first|assumption|apply pg|apply q3|exact mm0|apply mm1);apply r0)
  refine who12_c ?_
  repeat first|(apply x9;apply r0)|apply w4|(apply y4;apply r0)
  refine rreadlink_c hL htr hc (by omega) ?_
  repeat first|apply w4|(apply y1;apply r0;apply r0)|apply y0
  refine prot_done ?_
  generalize T.readlink c path = va
  repeat first|(apply x1;apply r0;apply r0)|(apply x2;apply r0;(with_reducible repeat first|assumption|apply q3);apply r0)|(apply x9;apply r0)|apply w6|apply w7|apply w5
  have hll := list_len hg c path
  refine list_c hg hc (by with_reducible repeat first|assumption|apply q3) (fun o => ?_)
  repeat first|(apply x1;apply r0;apply r0)|apply w4|apply w6|apply w5
  refine aw_prot [b6, b12] (allc (by with_reducible repeat first|assumption|apply q3) (allc (by with_reducible repeat first|assumption|apply q3) (allc0 _))) ?_
  refine aw_plan mixed (.take 0 (.take 1 (.take 3 (.one 2 (.one 4 (.take 5 (.take 6 (.take 7 (.take 8 (.take 9 .done)))))))))) (by kernel_rfl) ?_
  repeat first|(apply x9;apply r0)|(apply y1;apply r0;apply r0)|(apply y4;apply r0)|(apply y2;apply r0;apply r0;(with_reducible repeat first|assumption|apply pg|apply q3|exact mm0|apply mm1);apply r0)
  refine who12_c ?_
  repeat first|(apply x9;apply r0)|apply w4|(apply y4;apply r0)
  refine rlist_c hL htr hc (by omega) (fun o2 => ?_)
  repeat first|apply w4|(apply y1;apply r0;apply r0)|apply y0
  refine prot_done ?_
  generalize T.list c path = vb at hll ⊢
  repeat first|(apply x1;apply r0;apply r0)|apply w6|apply w7|apply w5
  refine s_gsplit rfl rfl (fun e1 => ?_) (fun e1 => ?_)<;>first|replace e1:=of_decide_eq_true e1|replace e1:=of_decide_eq_false e1
  case refine_2 => exact (e1 rfl).elim
  repeat first|(apply x1;apply r0;apply r0)|(apply x5;apply r0)
  refine s_gsplit rfl rfl (fun e2 => ?_) (fun e2 => ?_)<;>first|replace e2:=of_decide_eq_true e2|replace e2:=of_decide_eq_false e2
  case refine_2 => exact (e2 rfl).elim
  repeat first|(apply x1;apply r0;apply r0)|(apply x5;apply r0)|(apply x9;apply r0)
  refine rsames_c hll ?_
  rw [show decide (vb.1 = vb.1) = true from decide_eq_true rfl]
  repeat first|(apply x1;apply r0;apply r0)|(apply x5;apply r0)
  refine s_gsplit rfl rfl (fun e3 => ?_) (fun e3 => ?_)<;>first|replace e3:=of_decide_eq_true e3|replace e3:=of_decide_eq_false e3
  case refine_2 => exact (e3 rfl).elim
  repeat first|(apply x1;apply r0;apply r0)|(apply x5;apply r0)|(apply x9;apply r0)
  refine tsame_c hg.wf hg.wf (by with_reducible repeat first|assumption|apply q3) (by apply q0) ?_
  rw [same_self]
  repeat first|(apply x1;apply r0;apply r0)|apply w4|apply wd|apply w5
  exact rt1 (H' := H) rfl rfl (.refl _) (by repeat first|assumption|(apply su1;assumption)) hK
end Abs
end Go.Proofs.YtkopeigfjjbajaaGreat
