import Derived.Test.YtkopeigfjjbajaaGreatY9
set_option linter.unusedVariables false
namespace Go.Proofs.YtkopeigfjjbajaaGreat
namespace Abs
set_option linter.unusedSimpArgs false
set_option maxRecDepth 10000
set_option maxHeartbeats 2000000
attribute [local irreducible] AOps AW AP ACalls thenQ inBlk noGoto

/-! ### LookStats -/
theorem lookStats_c {room : Int} {l : List Raw} (hl : l.length ≤ 9223372036854775807) {c : Cred} {path : ByteArray} {i : Int} {H : AHeap} {K : AVal → AHeap → Prop} (hK : K (.b true) H) :
    ACalls Tryz.prog 3 [.i room, .sl (encRaws l) .no, .agg (encCred c), .s path, .i i] H K := by
  refine acalls_body Tryz.func3 rfl rfl rfl ?_
  repeat first|apply w6|apply w7
  refine s_box rfl rfl rfl (fun b7 hb7 => ?_); have hb := hb7; (try simp only [put_none_iff, prot_none_iff] at hb); (repeat obtain ⟨_, _, hb⟩ := hb)
  repeat first|(apply x1;apply r0;apply r0)|(apply x9;apply r0)|apply w4|apply w6|apply w7|apply w5
  refine awake12_c ?_
  repeat first|(apply gO;first|(apply x1;apply r0;apply r0)|(apply x2;apply r0;(apply q0);apply r0)|(apply x9;apply r0)|apply w4)|(apply gW;first|apply w6|apply w7|(apply w9;apply r0)|apply wa)|apply w5
  refine built12_c hl ?_ (fun T t hB ht => ?_)
  · repeat first|(apply gO;first|(apply x1;apply r0;apply r0)|apply w4|(apply w3;apply r0;apply r0))|(apply gW;first|apply w6|apply w7|(apply w8;apply r0)|apply wd)|apply w5|apply we
    exact rt1 (H' := H) rfl rfl (.refl _) (by repeat first|exact s0|(apply su1;assumption)) hK
  have hg := hB.good
  have hc := hB.small
  have htr := build_tree hB.tree
  have nb7 : b7 ≠ t := by
    have := (put_none_iff.1 ht)
    exact this.2.1
  have ht' : H t = none := (put_none_iff.1 ht).2.2
  repeat first|(apply x1;apply r0;apply r0)|(apply x5;apply r0)|apply w4|apply w6|apply w7|apply w5
  refine aw_cond rfl (fun g1 => ?_) (fun g1 => ?_)<;>first|replace g1:=of_decide_eq_true g1|replace g1:=of_decide_eq_false g1
  · repeat first|(apply x1;apply r0;apply r0)|apply w4|apply w6|apply w7|apply wd|apply w5|apply we
    exact rt1 (H' := H) rfl rfl (.refl _) (by repeat first|exact s0|(apply su1;assumption)) hK
  repeat first|(apply x1;apply r0;apply r0)|(apply x9;apply r0)|apply w6|apply w7|apply wa|apply w5
  refine tree12_c hg (by apply q0) (fun L hL hLl => ?_)
  skip
  refine s_alloc tk rfl rfl rfl (fun b14 hb14 => ?_); have hb := hb14; (try simp only [put_none_iff, prot_none_iff] at hb); (repeat obtain ⟨_, _, hb⟩ := hb)
  repeat first|(apply x1;apply r0;apply r0)|(apply xst;apply r0;(apply ps);apply r0)|(apply x9;apply r0)|apply w4|apply w6|apply w7|apply w5
  refine of_c hg (by with_reducible repeat first|assumption|apply q0|apply q3) ?_
  repeat (apply x1;apply r0;apply r0)
  refine s_alloc tk rfl rfl rfl (fun b15 hb15 => ?_); have hb := hb15; (try simp only [put_none_iff, prot_none_iff] at hb); (repeat obtain ⟨_, _, hb⟩ := hb)
  repeat first|(apply gO;first|(apply x1;apply r0;apply r0)|(apply x2;apply r0;(with_reducible repeat first|assumption|apply q0|apply ps|apply q3);apply r0)|(apply xst;apply r0;(with_reducible repeat first|assumption|apply q0|apply ps|apply q3);apply r0)|(apply x9;apply r0)|apply w4)|(apply gW;first|apply w6|apply w7)|apply w5
  refine lstat_c hg hc (by with_reducible repeat first|assumption|apply q0|apply q3) ?_
  repeat (apply x1;apply r0;apply r0)
  refine s_alloc tk rfl rfl rfl (fun b17 hb17 => ?_); have hb := hb17; (try simp only [put_none_iff, prot_none_iff] at hb); (repeat obtain ⟨_, _, hb⟩ := hb)
  (apply xst;apply r0;(apply ps);apply r0)
  generalize hY : AHeap.put _ b17 _ = Y
  have y14 : Rd Y b14 (encT L) := by rw [← hY]; exact (by apply rd_eq;(focus with_reducible repeat first|assumption|apply q0|apply q3);rfl)
  have y15 : Rd Y b15 (encSt (T.stat i)) := by rw [← hY]; exact (by apply rd_eq;(focus with_reducible repeat first|assumption|apply q0|apply q3);rfl)
  have y17 : Rd Y b17 (encSt (T.look c path true).1) := by rw [← hY]; exact (by apply rd_eq;(focus apply q0);rfl)
  have y7' : Rd Y b7 (encCred c) := by rw [← hY]; exact (by apply rd_eq;(focus with_reducible repeat first|assumption|apply q0|apply q3);rfl)
  have yT : Rd Y t (encTab T) := by rw [← hY]; exact (by apply rd_eq;(focus with_reducible repeat first|assumption|apply q0|apply q3);rfl)
  have ys : H.sub Y := by rw [← hY]; exact (by repeat first|exact s0|(apply su1;assumption))
  clear hY
  repeat first|(apply x1;apply r0;apply r0)|apply w4|apply w6|apply w5
  repeat apply w6
  refine aw_cutS (fun F' H' => ∃ b19, Y b19 = none ∧ Fr.sub [(3, .s path), (4, .i i), (7, .ptr b7 0), (12, .ptr t 0), (14, .ptr b14 0), (15, .ptr b15 0), (16, .b (T.has i)), (17, .ptr b17 0), (18, .i (T.look c path true).2), (19, .ptr b19 0), (20, .i (T.look c path true).2)] F' ∧ (Y.put b19 (.cells (encSt (T.look c path true).1))).sub H') ?_ ?_
  · refine aw_prot [b7, b14] (allc (by with_reducible assumption) (allc (by with_reducible assumption) (allc0 _))) ?_
    refine aw_plan mixed (.take 0 (.take 1 (.take 3 (.two 2 8 (.two 4 8 (.take 5 (.take 6 (.take 7 (.one 8 (.one 9 (.take 10 .done)))))) (.one 4 (.take 5 (.take 6 (.take 7 (.one 9 (.take 10 .done))))))) (.one 2 (.one 4 (.take 5 (.take 6 (.take 7 (.one 9 (.take 10 .done))))))))))) (by kernel_rfl) ?_
    repeat first|(apply y1;apply r0;apply r0)|(apply y2;apply r0;apply r0;(with_reducible repeat first|assumption|apply pg|exact mm0|apply mm1);apply r0)
    refine e_two rfl rfl ?_ ?_
    · repeat (apply x9;apply r0)
      refine who12_c ?_
      repeat apply w4
      refine e_two rfl rfl ?_ ?_
      · repeat (apply x9;apply r0)
        refine rstat_c hL htr hc (by omega) ?_
        repeat first|apply w4|(apply y1;apply r0;apply r0)|(apply y4;apply r0)
        skip
        refine s_alloc tk rfl rfl rfl (fun b19 hb19 => ?_); have hb := hb19; (try simp only [put_none_iff, prot_none_iff] at hb); (repeat obtain ⟨_, _, hb⟩ := hb)
        repeat first|(apply xst;apply r0;(apply ps);apply r0)|apply w4|(apply y1;apply r0;apply r0)|apply y0|(apply y4;apply r0)
        skip
        simp only [put_put]
        refine prot_done_put (by simp only [List.mem_cons,List.not_mem_nil,or_false,not_or]; first|exact (by first|assumption|exact n1 ‹_› ‹_›|exact n2 ‹_› ‹_›|exact n3 ‹_› ‹_›|exact n4 ‹_› ‹_›)|exact ⟨(by first|assumption|exact n1 ‹_› ‹_›|exact n2 ‹_› ‹_›|exact n3 ‹_› ‹_›|exact n4 ‹_› ‹_›),(by first|assumption|exact n1 ‹_› ‹_›|exact n2 ‹_› ‹_›|exact n3 ‹_› ‹_›|exact n4 ‹_› ‹_›)⟩|exact ⟨(by first|assumption|exact n1 ‹_› ‹_›|exact n2 ‹_› ‹_›|exact n3 ‹_› ‹_›|exact n4 ‹_› ‹_›),(by first|assumption|exact n1 ‹_› ‹_›|exact n2 ‹_› ‹_›|exact n3 ‹_› ‹_›|exact n4 ‹_› ‹_›),(by first|assumption|exact n1 ‹_› ‹_›|exact n2 ‹_› ‹_›|exact n3 ‹_› ‹_›|exact n4 ‹_› ‹_›)⟩) ?_
        repeat apply w5
        exact ⟨b19, hb, (by repeat (first | exact Fr.sub_nil _ | refine Fr.sub_cons rfl ?_)), s0⟩
      · skip
        refine s_alloc tk rfl rfl rfl (fun b19 hb19 => ?_); have hb := hb19; (try simp only [put_none_iff, prot_none_iff] at hb); (repeat obtain ⟨_, _, hb⟩ := hb)
        repeat first|(apply x9;apply r0)|apply w4|(apply y4;apply r0)
        skip
        refine rstat_c hL htr hc (by omega) ?_
        repeat first|(apply xst;apply r0;(apply ps);apply r0)|apply w4|(apply y1;apply r0;apply r0)|apply y0|(apply y4;apply r0)
        skip
        simp only [put_put]
        refine prot_done_put (by simp only [List.mem_cons,List.not_mem_nil,or_false,not_or]; first|exact (by first|assumption|exact n1 ‹_› ‹_›|exact n2 ‹_› ‹_›|exact n3 ‹_› ‹_›|exact n4 ‹_› ‹_›)|exact ⟨(by first|assumption|exact n1 ‹_› ‹_›|exact n2 ‹_› ‹_›|exact n3 ‹_› ‹_›|exact n4 ‹_› ‹_›),(by first|assumption|exact n1 ‹_› ‹_›|exact n2 ‹_› ‹_›|exact n3 ‹_› ‹_›|exact n4 ‹_› ‹_›)⟩|exact ⟨(by first|assumption|exact n1 ‹_› ‹_›|exact n2 ‹_› ‹_›|exact n3 ‹_› ‹_›|exact n4 ‹_› ‹_›),(by first|assumption|exact n1 ‹_› ‹_›|exact n2 ‹_› ‹_›|exact n3 ‹_› ‹_›|exact n4 ‹_› ‹_›),(by first|assumption|exact n1 ‹_› ‹_›|exact n2 ‹_› ‹_›|exact n3 ‹_› ‹_›|exact n4 ‹_› ‹_›)⟩) ?_
        repeat apply w5
        exact ⟨b19, hb, (by repeat (first | exact Fr.sub_nil _ | refine Fr.sub_cons rfl ?_)), s0⟩
    · skip
      refine s_alloc tk rfl rfl rfl (fun b19 hb19 => ?_); have hb := hb19; (try simp only [put_none_iff, prot_none_iff] at hb); (repeat obtain ⟨_, _, hb⟩ := hb)
      repeat first|(apply x9;apply r0)|apply w4|(apply y4;apply r0)
      skip
      refine who12_c ?_
      repeat first|(apply x9;apply r0)|apply w4|(apply y4;apply r0)
      skip
      refine rstat_c hL htr hc (by omega) ?_
      repeat first|(apply xst;apply r0;(apply ps);apply r0)|apply w4|(apply y1;apply r0;apply r0)|apply y0|(apply y4;apply r0)
      skip
      simp only [put_put]
      refine prot_done_put (by simp only [List.mem_cons,List.not_mem_nil,or_false,not_or]; first|exact (by first|assumption|exact n1 ‹_› ‹_›|exact n2 ‹_› ‹_›|exact n3 ‹_› ‹_›|exact n4 ‹_› ‹_›)|exact ⟨(by first|assumption|exact n1 ‹_› ‹_›|exact n2 ‹_› ‹_›|exact n3 ‹_› ‹_›|exact n4 ‹_› ‹_›),(by first|assumption|exact n1 ‹_› ‹_›|exact n2 ‹_› ‹_›|exact n3 ‹_› ‹_›|exact n4 ‹_› ‹_›)⟩|exact ⟨(by first|assumption|exact n1 ‹_› ‹_›|exact n2 ‹_› ‹_›|exact n3 ‹_› ‹_›|exact n4 ‹_› ‹_›),(by first|assumption|exact n1 ‹_› ‹_›|exact n2 ‹_› ‹_›|exact n3 ‹_› ‹_›|exact n4 ‹_› ‹_›),(by first|assumption|exact n1 ‹_› ‹_›|exact n2 ‹_› ‹_›|exact n3 ‹_› ‹_›|exact n4 ‹_› ‹_›)⟩) ?_
      repeat apply w5
      exact ⟨b19, hb, (by repeat (first | exact Fr.sub_nil _ | refine Fr.sub_cons rfl ?_)), s0⟩
  rintro F' H' ⟨b19, h19, hF, hH⟩
  refine AW_sub ?_ hF hH
  clear hF hH
  have f19 : H b19 = none := sub_none ys h19
  have n719 : b7 ≠ b19 := rd_ne y7' h19
  have n1419 : b14 ≠ b19 := rd_ne y14 h19
  have n1519 : b15 ≠ b19 := rd_ne y15 h19
  have n1719 : b17 ≠ b19 := rd_ne y17 h19
  have nt19 : t ≠ b19 := rd_ne yT h19
  repeat first|(apply x1;apply r0;apply r0)|(apply x2;apply r0;(with_reducible repeat first|assumption|apply q3);apply r0)|(apply x9;apply r0)|apply w6|apply w7
  refine llstat_c hg hc (by with_reducible repeat first|assumption|apply q3) ?_
  repeat (apply x1;apply r0;apply r0)
  refine s_alloc tk rfl rfl rfl (fun b21 hb21 => ?_); have hb := hb21; (try simp only [put_none_iff, prot_none_iff] at hb); (repeat obtain ⟨_, _, hb⟩ := hb)
  (apply xst;apply r0;(apply ps);apply r0)
  generalize hZ : AHeap.put _ b21 _ = Z
  have z14 : Rd Z b14 (encT L) := by rw [← hZ]; exact (by apply rd_eq;(focus with_reducible repeat first|assumption|apply q3|exact n1 ‹_› ‹_›);rfl)
  have z15 : Rd Z b15 (encSt (T.stat i)) := by rw [← hZ]; exact (by apply rd_eq;(focus with_reducible repeat first|assumption|apply q3|exact n1 ‹_› ‹_›);rfl)
  have z17 : Rd Z b17 (encSt (T.look c path true).1) := by rw [← hZ]; exact (by apply rd_eq;(focus with_reducible repeat first|assumption|apply q3|exact n1 ‹_› ‹_›);rfl)
  have z19 : Rd Z b19 (encSt (T.look c path true).1) := by rw [← hZ]; exact (by apply rd_eq;(focus with_reducible repeat first|assumption|apply q0|apply q3);rfl)
  have z21 : Rd Z b21 (encSt (T.look c path false).1) := by rw [← hZ]; exact (by apply rd_eq;(focus apply q0);rfl)
  have z7' : Rd Z b7 (encCred c) := by rw [← hZ]; exact (by apply rd_eq;(focus with_reducible repeat first|assumption|apply q3|exact n1 ‹_› ‹_›);rfl)
  have zs : H.sub Z := by rw [← hZ]; exact (by repeat first|assumption|(apply su1;assumption)|(apply su3;assumption;assumption))
  clear hZ
  repeat first|(apply x1;apply r0;apply r0)|apply w4|apply w6|apply w5
  repeat apply w6
  refine aw_cutS (fun F' H' => ∃ b23, Z b23 = none ∧ Fr.sub [(4, .i i), (14, .ptr b14 0), (15, .ptr b15 0), (16, .b (T.has i)), (17, .ptr b17 0), (18, .i (T.look c path true).2), (19, .ptr b19 0), (20, .i (T.look c path true).2), (21, .ptr b21 0), (22, .i (T.look c path false).2), (23, .ptr b23 0), (24, .i (T.look c path false).2)] F' ∧ (Z.put b23 (.cells (encSt (T.look c path false).1))).sub H') ?_ ?_
  · refine aw_prot [b7, b14] (allc (by with_reducible assumption) (allc (by with_reducible assumption) (allc0 _))) ?_
    refine aw_plan mixed (.take 0 (.take 1 (.take 3 (.two 2 8 (.two 4 8 (.take 5 (.take 6 (.take 7 (.one 8 (.one 9 (.take 10 .done)))))) (.one 4 (.take 5 (.take 6 (.take 7 (.one 9 (.take 10 .done))))))) (.one 2 (.one 4 (.take 5 (.take 6 (.take 7 (.one 9 (.take 10 .done))))))))))) (by kernel_rfl) ?_
    repeat first|(apply y1;apply r0;apply r0)|(apply y2;apply r0;apply r0;(with_reducible repeat first|assumption|apply pg|exact mm0|apply mm1);apply r0)
    refine e_two rfl rfl ?_ ?_
    · repeat (apply x9;apply r0)
      refine who12_c ?_
      repeat apply w4
      refine e_two rfl rfl ?_ ?_
      · repeat (apply x9;apply r0)
        refine rstat_c hL htr hc (by omega) ?_
        repeat first|apply w4|(apply y1;apply r0;apply r0)|(apply y4;apply r0)
        skip
        refine s_alloc tk rfl rfl rfl (fun b23 hb23 => ?_); have hb := hb23; (try simp only [put_none_iff, prot_none_iff] at hb); (repeat obtain ⟨_, _, hb⟩ := hb)
        repeat first|(apply xst;apply r0;(apply ps);apply r0)|apply w4|(apply y1;apply r0;apply r0)|apply y0|(apply y4;apply r0)
        skip
        simp only [put_put]
        refine prot_done_put (by simp only [List.mem_cons,List.not_mem_nil,or_false,not_or]; first|exact (by first|assumption|exact n1 ‹_› ‹_›|exact n2 ‹_› ‹_›|exact n3 ‹_› ‹_›|exact n4 ‹_› ‹_›)|exact ⟨(by first|assumption|exact n1 ‹_› ‹_›|exact n2 ‹_› ‹_›|exact n3 ‹_› ‹_›|exact n4 ‹_› ‹_›),(by first|assumption|exact n1 ‹_› ‹_›|exact n2 ‹_› ‹_›|exact n3 ‹_› ‹_›|exact n4 ‹_› ‹_›)⟩|exact ⟨(by first|assumption|exact n1 ‹_› ‹_›|exact n2 ‹_› ‹_›|exact n3 ‹_› ‹_›|exact n4 ‹_› ‹_›),(by first|assumption|exact n1 ‹_› ‹_›|exact n2 ‹_› ‹_›|exact n3 ‹_› ‹_›|exact n4 ‹_› ‹_›),(by first|assumption|exact n1 ‹_› ‹_›|exact n2 ‹_› ‹_›|exact n3 ‹_› ‹_›|exact n4 ‹_› ‹_›)⟩) ?_
        repeat apply w5
        exact ⟨b23, hb, (by repeat (first | exact Fr.sub_nil _ | refine Fr.sub_cons rfl ?_)), s0⟩
      · skip
        refine s_alloc tk rfl rfl rfl (fun b23 hb23 => ?_); have hb := hb23; (try simp only [put_none_iff, prot_none_iff] at hb); (repeat obtain ⟨_, _, hb⟩ := hb)
        repeat first|(apply x9;apply r0)|apply w4|(apply y4;apply r0)
        skip
        refine rstat_c hL htr hc (by omega) ?_
        repeat first|(apply xst;apply r0;(apply ps);apply r0)|apply w4|(apply y1;apply r0;apply r0)|apply y0|(apply y4;apply r0)
        skip
        simp only [put_put]
        refine prot_done_put (by simp only [List.mem_cons,List.not_mem_nil,or_false,not_or]; first|exact (by first|assumption|exact n1 ‹_› ‹_›|exact n2 ‹_› ‹_›|exact n3 ‹_› ‹_›|exact n4 ‹_› ‹_›)|exact ⟨(by first|assumption|exact n1 ‹_› ‹_›|exact n2 ‹_› ‹_›|exact n3 ‹_› ‹_›|exact n4 ‹_› ‹_›),(by first|assumption|exact n1 ‹_› ‹_›|exact n2 ‹_› ‹_›|exact n3 ‹_› ‹_›|exact n4 ‹_› ‹_›)⟩|exact ⟨(by first|assumption|exact n1 ‹_› ‹_›|exact n2 ‹_› ‹_›|exact n3 ‹_› ‹_›|exact n4 ‹_› ‹_›),(by first|assumption|exact n1 ‹_› ‹_›|exact n2 ‹_› ‹_›|exact n3 ‹_› ‹_›|exact n4 ‹_› ‹_›),(by first|assumption|exact n1 ‹_› ‹_›|exact n2 ‹_› ‹_›|exact n3 ‹_› ‹_›|exact n4 ‹_› ‹_›)⟩) ?_
        repeat apply w5
        exact ⟨b23, hb, (by repeat (first | exact Fr.sub_nil _ | refine Fr.sub_cons rfl ?_)), s0⟩
    · skip
      refine s_alloc tk rfl rfl rfl (fun b23 hb23 => ?_); have hb := hb23; (try simp only [put_none_iff, prot_none_iff] at hb); (repeat obtain ⟨_, _, hb⟩ := hb)
      repeat first|(apply x9;apply r0)|apply w4|(apply y4;apply r0)
      skip
      refine who12_c ?_
      repeat first|(apply x9;apply r0)|apply w4|(apply y4;apply r0)
      skip
      refine rstat_c hL htr hc (by omega) ?_
      repeat first|(apply xst;apply r0;(apply ps);apply r0)|apply w4|(apply y1;apply r0;apply r0)|apply y0|(apply y4;apply r0)
      skip
      simp only [put_put]
      refine prot_done_put (by simp only [List.mem_cons,List.not_mem_nil,or_false,not_or]; first|exact (by first|assumption|exact n1 ‹_› ‹_›|exact n2 ‹_› ‹_›|exact n3 ‹_› ‹_›|exact n4 ‹_› ‹_›)|exact ⟨(by first|assumption|exact n1 ‹_› ‹_›|exact n2 ‹_› ‹_›|exact n3 ‹_› ‹_›|exact n4 ‹_› ‹_›),(by first|assumption|exact n1 ‹_› ‹_›|exact n2 ‹_› ‹_›|exact n3 ‹_› ‹_›|exact n4 ‹_› ‹_›)⟩|exact ⟨(by first|assumption|exact n1 ‹_› ‹_›|exact n2 ‹_› ‹_›|exact n3 ‹_› ‹_›|exact n4 ‹_› ‹_›),(by first|assumption|exact n1 ‹_› ‹_›|exact n2 ‹_› ‹_›|exact n3 ‹_› ‹_›|exact n4 ‹_› ‹_›),(by first|assumption|exact n1 ‹_› ‹_›|exact n2 ‹_› ‹_›|exact n3 ‹_› ‹_›|exact n4 ‹_› ‹_›)⟩) ?_
      repeat apply w5
      exact ⟨b23, hb, (by repeat (first | exact Fr.sub_nil _ | refine Fr.sub_cons rfl ?_)), s0⟩
  rintro F' H' ⟨b23, h23, hF, hH⟩
  refine AW_sub ?_ hF hH
  clear hF hH
  have f23 : H b23 = none := sub_none zs h23
  have n1423 : b14 ≠ b23 := rd_ne z14 h23
  have n1523 : b15 ≠ b23 := rd_ne z15 h23
  have n1723 : b17 ≠ b23 := rd_ne z17 h23
  have n1923 : b19 ≠ b23 := rd_ne z19 h23
  have n2123 : b21 ≠ b23 := rd_ne z21 h23
  generalize T.look c path true = va at z17 z19 ⊢
  generalize T.look c path false = vb at z21 ⊢
  repeat apply w6
  refine aw_prot [b14, b15, b17, b19, b21, b23] (allc (by with_reducible repeat first|assumption|apply q3) (allc (by with_reducible repeat first|assumption|apply q3) (allc (by with_reducible repeat first|assumption|apply q3) (allc (by with_reducible repeat first|assumption|apply q3) (allc (by with_reducible repeat first|assumption|apply q3) (allc (by apply q0) (allc0 _))))))) ?_
  refine aw_plan mixed (.take 0 (.take 1 (.take 2 (.one 3 (.take 4 (.take 5 (.take 6 (.take 7 (.take 8 (.one 9 (.take 10 (.take 11 (.take 12 (.take 13 (.take 14 (.take 15 (.take 16 (.take 17 (.take 18 (.take 19 (.take 20 (.take 21 (.take 22 (.take 23 (.take 24 (.take 25 (.take 26 (.take 27 (.take 28 (.take 29 (.take 30 (.take 31 (.take 32 .done))))))))))))))))))))))))))))))))) (by kernel_rfl) ?_
  repeat first|(apply x9;apply r0)|(apply y1;apply r0;apply r0)|(apply y4;apply r0)|(apply y2;apply r0;apply r0;(with_reducible repeat first|assumption|apply pg|apply q3|exact mm0|apply mm1);apply r0)
  refine rof_c hL ?_
  repeat apply w4
  refine d_stab rfl rfl rfl (pures_eqagg (r := true) tk (.inl rfl) rfl rfl rfl (by kernel_rfl) (by exact congrArg some (statEq (T.stat i)))).stab ?_
  repeat first|(apply x5;apply r0)|(apply x9;apply r0)|(apply y1;apply r0;apply r0)|(apply take1_ok;apply r0)|(apply y4;apply r0)|(apply y2;apply r0;apply r0;(with_reducible repeat first|assumption|apply pg|apply q3|exact mm0);apply r0)
  refine ris_c hL.len ?_
  rw [l_is hL]
  repeat first|apply w4|(apply y1;apply r0;apply r0)|(apply take1_ok;apply r0)
  refine d_split rfl rfl rfl (fun e1 => ?_) (fun e1 => ?_)<;>first|replace e1:=of_decide_eq_true e1|replace e1:=of_decide_eq_false e1
  case refine_2 => exact (e1 rfl).elim
  repeat (apply y2;apply r0;apply r0;(with_reducible repeat first|assumption|apply pg|apply q3|exact mm0|apply mm1);apply r0)
  refine d_stab rfl rfl rfl (pures_eqagg (r := true) tk (.inl rfl) rfl rfl rfl (by kernel_rfl) (by exact congrArg some (statEq va.1))).stab ?_
  repeat first|(apply y1;apply r0;apply r0)|(apply take1_ok;apply r0)
  refine d_split rfl rfl rfl (fun e2 => ?_) (fun e2 => ?_)<;>first|replace e2:=of_decide_eq_true e2|replace e2:=of_decide_eq_false e2
  case refine_2 => exact (e2 rfl).elim
  repeat (apply y2;apply r0;apply r0;(with_reducible repeat first|assumption|apply q0|apply pg|apply q3|exact mm0|apply mm1);apply r0)
  refine d_stab rfl rfl rfl (pures_eqagg (r := true) tk (.inl rfl) rfl rfl rfl (by kernel_rfl) (by exact congrArg some (statEq vb.1))).stab ?_
  repeat first|(apply y1;apply r0;apply r0)|apply y0|(apply take1_ok;apply r0)
  refine prot_done ?_
  repeat first|apply wd|apply w5
  refine rt1 (H' := H) rfl rfl (.refl _) (by repeat first|assumption|(apply su1;assumption)) ?_
  rw [show decide (vb.2 = vb.2) = true from decide_eq_true rfl]
  exact hK
end Abs
end Go.Proofs.YtkopeigfjjbajaaGreat
