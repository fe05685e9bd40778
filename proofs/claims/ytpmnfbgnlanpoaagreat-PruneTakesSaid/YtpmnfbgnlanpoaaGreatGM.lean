import Derived.Test.YtpmnfbgnlanpoaaGreatGN
set_option linter.unusedVariables false
namespace Go.Proofs.YtpmnfbgnlanpoaaGreat
namespace Abs
set_option linter.unusedSimpArgs false
set_option maxRecDepth 10000
set_option maxHeartbeats 2000000
attribute [local irreducible] AOps AW AP ACalls thenQ inBlk noGoto

/-! ### PruneTakes -/
theorem pruneTakes_c {room : Int} {l : List Raw} (hl : l.length ≤ 9223372036854775807) {c : Cred} {path : ByteArray} {op : List Int} {i dir : Int} {H : AHeap} {K : AVal → AHeap → Prop} (hK : K (.b true) H) :
    ACalls Tryz.prog 5 [.i room, .sl (encRaws l) .no, .agg (encCred c), .s path, .sl (encInts op) .no, .i i, .i dir] H K := by
  refine acalls_body Tryz.func5 rfl rfl rfl ?_
  repeat first|apply w6|apply w7
  refine s_box rfl rfl rfl (fun b9 hb9 => ?_); have hb := hb9; (try simp only [put_none_iff, prot_none_iff] at hb); (repeat obtain ⟨_, _, hb⟩ := hb)
  repeat first|(apply x1;apply r0;apply r0)|(apply x9;apply r0)|apply w4|apply w6|apply w7|apply w5
  refine awake15_c ?_
  repeat first|(apply gO;first|(apply x1;apply r0;apply r0)|(apply x2;apply r0;(apply q0);apply r0)|(apply x9;apply r0)|apply w4)|(apply gW;first|apply w6|apply w7|(apply w9;apply r0)|apply wa)|apply w5
  refine built15_c hl ?_ (fun T t hB ht => ?_)
  · repeat first|(apply gO;first|(apply x1;apply r0;apply r0)|apply w4|(apply w3;apply r0;apply r0))|(apply gW;first|apply w6|apply w7|(apply w8;apply r0)|apply wd)|apply w5|apply we
    exact rt1 (H' := H) rfl rfl (.refl _) (by repeat first|exact s0|(apply su1;assumption)) hK
  have hg := hB.good
  have hc := hB.small
  have htr := build_tree hB.tree
  have hoi := ints_len op
  have nb7 : b9 ≠ t := by
    have := (put_none_iff.1 ht)
    exact this.2.1
  have ht' : H t = none := (put_none_iff.1 ht).2.2
  repeat first|(apply x1;apply r0;apply r0)|(apply x5;apply r0)|apply w4|apply w6|apply w7|apply w5
  refine s_gsplit rfl rfl (fun g1 => ?_) (fun g1 => ?_)<;>first|replace g1:=of_decide_eq_true g1|replace g1:=of_decide_eq_false g1
  · repeat first|(apply gO;first|(apply x1;apply r0;apply r0)|apply w4|(apply w3;apply r0;apply r0))|(apply gW;first|apply w6|apply w7|(apply w8;apply r0)|apply wd)|apply w5|apply we
    exact rt1 (H' := H) rfl rfl (.refl _) (by repeat first|exact s0|(apply su1;assumption)) hK
  repeat first|(apply x1;apply r0;apply r0)|(apply x5;apply r0)|apply w4|apply w5
  refine aw_cond rfl (fun g2 => ?_) (fun g2 => ?_)<;>first|replace g2:=of_decide_eq_true g2|replace g2:=of_decide_eq_false g2
  · repeat first|(apply x1;apply r0;apply r0)|apply w4|apply w6|apply w7|apply wd|apply w5|apply we
    exact rt1 (H' := H) rfl rfl (.refl _) (by repeat first|exact s0|(apply su1;assumption)) hK
  have hop : op.length ≤ 9223372036854775807 := by omega
  have hgA := good_unlink hg c (T.resolve c path false) op
  have hgB := good_rmdir hg c (T.resolve c path false)
  have hgC := good_freeN hg i op
  repeat first|(apply x1;apply r0;apply r0)|(apply x9;apply r0)|apply w6|apply w7|apply wa|apply w5
  refine clone_c hg.wf (by apply q0) (fun u hu => ?_)
  generalize hX : AHeap.put _ t _ = X at hu ⊢
  have xT' : X t = some (.cells (encTab T)) := by rw [← hX]; exact (by apply get_eq;(focus apply ps);rfl)
  have x9' : Rd X b9 (encCred c) := by rw [← hX]; exact (by apply rd_eq;(focus with_reducible repeat first|assumption|apply q0|apply q3);rfl)
  have xss : H.sub X := by rw [← hX]; exact (by repeat first|exact s0|(apply su1;assumption))
  clear hX
  have fu : H u = none := sub_none xss hu
  have ntu : t ≠ u := get_ne xT' hu
  have nut : u ≠ t := Ne.symm ntu
  have n9u : b9 ≠ u := rd_ne x9' hu
  repeat first|(apply x1;apply r0;apply r0)|(apply x9;apply r0)|apply w4|apply w6|apply w7|apply w5
  refine clone_c hg.wf (by with_reducible repeat first|assumption|exact q1 ‹_›|apply q3) (fun w hw => ?_)
  generalize hX2 : AHeap.put _ u _ = X2 at hw ⊢
  have zT2 : X2 t = some (.cells (encTab T)) := by rw [← hX2]; exact (by apply get_eq;(focus with_reducible repeat first|assumption|apply gp);rfl)
  have z92 : Rd X2 b9 (encCred c) := by rw [← hX2]; exact (by apply rd_eq;(focus with_reducible repeat first|assumption|apply q3);rfl)
  have zu2 : X2 u = some (.cells (encTab T)) := by rw [← hX2]; exact (by apply get_eq;(focus apply ps);rfl)
  have zs2 : H.sub X2 := by rw [← hX2]; exact (by repeat first|assumption|(apply su1;assumption))
  clear hX2
  have fw : H w = none := sub_none zs2 hw
  have ntw : t ≠ w := get_ne zT2 hw
  have nwt : w ≠ t := Ne.symm ntw
  have nuw : u ≠ w := get_ne zu2 hw
  have nwu : w ≠ u := Ne.symm nuw
  have n9w : b9 ≠ w := rd_ne z92 hw
  repeat first|(apply x1;apply r0;apply r0)|(apply x9;apply r0)|apply w4|apply w6|apply w7|apply w5
  refine below_c hg (by with_reducible repeat first|assumption|exact q1 ‹_›|apply q3) ?_
  repeat first|(apply x1;apply r0;apply r0)|(apply x9;apply r0)|apply w4|apply w6|apply w7|apply w5
  refine tree15_c hg (by with_reducible repeat first|assumption|exact q1 ‹_›|apply q3) (fun L0 hL0 hLl0 => ?_)
  repeat first|(apply x1;apply r0;apply r0)|(apply x9;apply r0)
  refine rbelow_c hL0 ?_
  generalize T.below 24 i dir = bl
  repeat first|(apply x1;apply r0;apply r0)|apply w4|apply w6|apply w5
  repeat apply w6
  generalize hY : AHeap.put _ w _ = Y
  have yT : Y t = some (.cells (encTab T)) := by rw [← hY]; exact (by apply get_eq;(focus with_reducible repeat first|assumption|apply gp);rfl)
  have yU : Y u = some (.cells (encTab T)) := by rw [← hY]; exact (by apply get_eq;(focus with_reducible repeat first|assumption|apply gp);rfl)
  have yW : Y w = some (.cells (encTab T)) := by rw [← hY]; exact (by apply get_eq;(focus apply ps);rfl)
  have y9 : Rd Y b9 (encCred c) := by rw [← hY]; exact (by apply rd_eq;(focus with_reducible repeat first|assumption|apply q3);rfl)
  have ys : H.sub Y := by rw [← hY]; exact (by repeat first|assumption|(apply su1;assumption))
  clear hY
  refine aw_cutS (fun F' H' => ∃ b22 M, Y b22 = none ∧ Tells (T.unlinkF c (T.resolve c path false) op).1 M ∧ Fr.sub [(3, .s path), (4, .sl (encInts op) .no), (5, .i i), (9, .ptr b9 0), (16, .ptr t 0), (18, .ptr u 0), (19, .ptr w 0), (20, .b bl), (21, .b bl), (22, .ptr b22 0), (23, .i (T.unlinkF c (T.resolve c path false) op).2)] F' ∧ (Y.put b22 (.cells (encT M))).sub H') ?_ ?_
  · refine aw_prot [b9, t] (allc (by with_reducible assumption) (allc (by with_reducible repeat exact q1 ‹_›) (allc0 _))) ?_
    refine aw_plan mixed (.take 0 (.take 2 (.take 4 (.take 5 (.two 1 10 (.two 3 10 (.two 6 10 (.take 7 (.take 8 (.take 9 (.one 10 (.one 11 (.take 12 .done)))))) (.one 6 (.take 7 (.take 8 (.take 9 (.one 11 (.take 12 .done))))))) (.one 3 (.one 6 (.take 7 (.take 8 (.take 9 (.one 11 (.take 12 .done)))))))) (.one 1 (.one 3 (.one 6 (.take 7 (.take 8 (.take 9 (.one 11 (.take 12 .done))))))))))))) (by kernel_rfl) ?_
    repeat first|(apply y1;apply r0;apply r0)|(apply y2;apply r0;apply r0;(with_reducible repeat first|assumption|apply pg|exact mm0);apply r0)
    refine e_two rfl rfl ?_ ?_
    · repeat (apply x9;apply r0)
      refine tree15_c hg (by with_reducible repeat first|exact q1 ‹_›|apply q4) (fun L hL hLl => ?_)
      repeat apply w4
      refine e_two rfl rfl ?_ ?_
      · repeat (apply x9;apply r0)
        refine who15_c ?_
        repeat apply w4
        refine e_two rfl rfl ?_ ?_
        · repeat (apply x9;apply r0)
          refine runlink_c hL htr hc (by omega) hop (fun M hM _ => ?_)
          repeat first|apply w4|(apply y1;apply r0;apply r0)|(apply y4;apply r0)
          skip
          refine s_alloc tk rfl rfl rfl (fun b22 hb22 => ?_); have hb := hb22; (try simp only [put_none_iff, prot_none_iff] at hb); (repeat obtain ⟨_, _, hb⟩ := hb)
          repeat first|(apply xst;apply r0;(apply ps);apply r0)|apply w4|(apply y1;apply r0;apply r0)|apply y0|(apply y4;apply r0)
          skip
          simp only [put_put]
          refine prot_done_put (by simp only [List.mem_cons,List.not_mem_nil,or_false,not_or]; first|exact (by first|assumption|exact n1 ‹_› ‹_›|exact n2 ‹_› ‹_›|exact n3 ‹_› ‹_›|exact n4 ‹_› ‹_›)|exact ⟨(by first|assumption|exact n1 ‹_› ‹_›|exact n2 ‹_› ‹_›|exact n3 ‹_› ‹_›|exact n4 ‹_› ‹_›),(by first|assumption|exact n1 ‹_› ‹_›|exact n2 ‹_› ‹_›|exact n3 ‹_› ‹_›|exact n4 ‹_› ‹_›)⟩|exact ⟨(by first|assumption|exact n1 ‹_› ‹_›|exact n2 ‹_› ‹_›|exact n3 ‹_› ‹_›|exact n4 ‹_› ‹_›),(by first|assumption|exact n1 ‹_› ‹_›|exact n2 ‹_› ‹_›|exact n3 ‹_› ‹_›|exact n4 ‹_› ‹_›),(by first|assumption|exact n1 ‹_› ‹_›|exact n2 ‹_› ‹_›|exact n3 ‹_› ‹_›|exact n4 ‹_› ‹_›)⟩) ?_
          repeat apply w5
          exact ⟨b22, M, hb, hM, (by repeat (first | exact Fr.sub_nil _ | refine Fr.sub_cons rfl ?_)), s0⟩
        · skip
          refine s_alloc tk rfl rfl rfl (fun b22 hb22 => ?_); have hb := hb22; (try simp only [put_none_iff, prot_none_iff] at hb); (repeat obtain ⟨_, _, hb⟩ := hb)
          repeat first|(apply x9;apply r0)|apply w4|(apply y4;apply r0)
          skip
          refine runlink_c hL htr hc (by omega) hop (fun M hM _ => ?_)
          repeat first|(apply xst;apply r0;(apply ps);apply r0)|apply w4|(apply y1;apply r0;apply r0)|apply y0|(apply y4;apply r0)
          simp only [put_put]
          refine prot_done_put (by simp only [List.mem_cons,List.not_mem_nil,or_false,not_or]; first|exact (by first|assumption|exact n1 ‹_› ‹_›|exact n2 ‹_› ‹_›|exact n3 ‹_› ‹_›|exact n4 ‹_› ‹_›)|exact ⟨(by first|assumption|exact n1 ‹_› ‹_›|exact n2 ‹_› ‹_›|exact n3 ‹_› ‹_›|exact n4 ‹_› ‹_›),(by first|assumption|exact n1 ‹_› ‹_›|exact n2 ‹_› ‹_›|exact n3 ‹_› ‹_›|exact n4 ‹_› ‹_›)⟩|exact ⟨(by first|assumption|exact n1 ‹_› ‹_›|exact n2 ‹_› ‹_›|exact n3 ‹_› ‹_›|exact n4 ‹_› ‹_›),(by first|assumption|exact n1 ‹_› ‹_›|exact n2 ‹_› ‹_›|exact n3 ‹_› ‹_›|exact n4 ‹_› ‹_›),(by first|assumption|exact n1 ‹_› ‹_›|exact n2 ‹_› ‹_›|exact n3 ‹_› ‹_›|exact n4 ‹_› ‹_›)⟩) ?_
          repeat apply w5
          exact ⟨b22, M, hb, hM, (by repeat (first | exact Fr.sub_nil _ | refine Fr.sub_cons rfl ?_)), s0⟩
      · skip
        refine s_alloc tk rfl rfl rfl (fun b22 hb22 => ?_); have hb := hb22; (try simp only [put_none_iff, prot_none_iff] at hb); (repeat obtain ⟨_, _, hb⟩ := hb)
        repeat first|(apply x9;apply r0)|apply w4|(apply y4;apply r0)
        skip
        refine who15_c ?_
        repeat first|(apply x9;apply r0)|apply w4|(apply y4;apply r0)
        skip
        refine runlink_c hL htr hc (by omega) hop (fun M hM _ => ?_)
        repeat first|(apply xst;apply r0;(apply ps);apply r0)|apply w4|(apply y1;apply r0;apply r0)|apply y0|(apply y4;apply r0)
        simp only [put_put]
        refine prot_done_put (by simp only [List.mem_cons,List.not_mem_nil,or_false,not_or]; first|exact (by first|assumption|exact n1 ‹_› ‹_›|exact n2 ‹_› ‹_›|exact n3 ‹_› ‹_›|exact n4 ‹_› ‹_›)|exact ⟨(by first|assumption|exact n1 ‹_› ‹_›|exact n2 ‹_› ‹_›|exact n3 ‹_› ‹_›|exact n4 ‹_› ‹_›),(by first|assumption|exact n1 ‹_› ‹_›|exact n2 ‹_› ‹_›|exact n3 ‹_› ‹_›|exact n4 ‹_› ‹_›)⟩|exact ⟨(by first|assumption|exact n1 ‹_› ‹_›|exact n2 ‹_› ‹_›|exact n3 ‹_› ‹_›|exact n4 ‹_› ‹_›),(by first|assumption|exact n1 ‹_› ‹_›|exact n2 ‹_› ‹_›|exact n3 ‹_› ‹_›|exact n4 ‹_› ‹_›),(by first|assumption|exact n1 ‹_› ‹_›|exact n2 ‹_› ‹_›|exact n3 ‹_› ‹_›|exact n4 ‹_› ‹_›)⟩) ?_
        repeat apply w5
        exact ⟨b22, M, hb, hM, (by repeat (first | exact Fr.sub_nil _ | refine Fr.sub_cons rfl ?_)), s0⟩
    · skip
      refine s_alloc tk rfl rfl rfl (fun b22 hb22 => ?_); have hb := hb22; (try simp only [put_none_iff, prot_none_iff] at hb); (repeat obtain ⟨_, _, hb⟩ := hb)
      repeat first|(apply x9;apply r0)|apply w4|(apply y4;apply r0)
      skip
      refine tree15_c hg (by with_reducible repeat first|exact q1 ‹_›|apply q4|apply q3|exact n2 ‹_› ‹_›) (fun L hL hLl => ?_)
      repeat first|(apply x9;apply r0)|apply w4|(apply y4;apply r0)
      skip
      refine who15_c ?_
      repeat first|(apply x9;apply r0)|apply w4|(apply y4;apply r0)
      skip
      refine runlink_c hL htr hc (by omega) hop (fun M hM _ => ?_)
      repeat first|(apply xst;apply r0;(apply ps);apply r0)|apply w4|(apply y1;apply r0;apply r0)|apply y0|(apply y4;apply r0)
      simp only [put_put]
      refine prot_done_put (by simp only [List.mem_cons,List.not_mem_nil,or_false,not_or]; first|exact (by first|assumption|exact n1 ‹_› ‹_›|exact n2 ‹_› ‹_›|exact n3 ‹_› ‹_›|exact n4 ‹_› ‹_›)|exact ⟨(by first|assumption|exact n1 ‹_› ‹_›|exact n2 ‹_› ‹_›|exact n3 ‹_› ‹_›|exact n4 ‹_› ‹_›),(by first|assumption|exact n1 ‹_› ‹_›|exact n2 ‹_› ‹_›|exact n3 ‹_› ‹_›|exact n4 ‹_› ‹_›)⟩|exact ⟨(by first|assumption|exact n1 ‹_› ‹_›|exact n2 ‹_› ‹_›|exact n3 ‹_› ‹_›|exact n4 ‹_› ‹_›),(by first|assumption|exact n1 ‹_› ‹_›|exact n2 ‹_› ‹_›|exact n3 ‹_› ‹_›|exact n4 ‹_› ‹_›),(by first|assumption|exact n1 ‹_› ‹_›|exact n2 ‹_› ‹_›|exact n3 ‹_› ‹_›|exact n4 ‹_› ‹_›)⟩) ?_
      repeat apply w5
      exact ⟨b22, M, hb, hM, (by repeat (first | exact Fr.sub_nil _ | refine Fr.sub_cons rfl ?_)), s0⟩
  rintro F' H' ⟨b22, M1, h22, hM1, hF, hH⟩
  refine AW_sub ?_ hF hH
  clear hF hH
  have f22 : H b22 = none := sub_none ys h22
  have n922 : b9 ≠ b22 := rd_ne y9 h22
  have nt22 : t ≠ b22 := get_ne yT h22
  have nu22 : u ≠ b22 := get_ne yU h22
  have nw22 : w ≠ b22 := get_ne yW h22
  have n22t : b22 ≠ t := Ne.symm nt22
  have n22u : b22 ≠ u := Ne.symm nu22
  have n22w : b22 ≠ w := Ne.symm nw22
  generalize hZ : AHeap.put _ b22 _ = Z
  have zT : Z t = some (.cells (encTab T)) := by rw [← hZ]; exact (by apply get_eq;(focus with_reducible repeat first|assumption|apply gp);rfl)
  have zU : Z u = some (.cells (encTab T)) := by rw [← hZ]; exact (by apply get_eq;(focus with_reducible repeat first|assumption|apply gp);rfl)
  have zW : Z w = some (.cells (encTab T)) := by rw [← hZ]; exact (by apply get_eq;(focus with_reducible repeat first|assumption|apply gp);rfl)
  have z9 : Rd Z b9 (encCred c) := by rw [← hZ]; exact (by apply rd_eq;(focus with_reducible repeat first|assumption|apply q3);rfl)
  have z22 : Rd Z b22 (encT M1) := by rw [← hZ]; exact (by apply rd_eq;(focus apply q0);rfl)
  have zs : H.sub Z := by rw [← hZ]; exact (by repeat first|assumption|(apply su1;assumption))
  clear hZ
  repeat apply w6
  refine aw_cutS (fun F' H' => ∃ b24 M, Z b24 = none ∧ Tells (T.rmdirF c (T.resolve c path false)).1 M ∧ Fr.sub [(3, .s path), (4, .sl (encInts op) .no), (5, .i i), (9, .ptr b9 0), (16, .ptr t 0), (18, .ptr u 0), (19, .ptr w 0), (20, .b bl), (21, .b bl), (22, .ptr b22 0), (23, .i (T.unlinkF c (T.resolve c path false) op).2), (24, .ptr b24 0), (25, .i (T.rmdirF c (T.resolve c path false)).2)] F' ∧ (Z.put b24 (.cells (encT M))).sub H') ?_ ?_
  · refine aw_prot [b9, t] (allc (by with_reducible assumption) (allc (by with_reducible repeat exact q1 ‹_›) (allc0 _))) ?_
    refine aw_plan mixed (.take 0 (.take 2 (.take 4 (.two 1 9 (.two 3 9 (.two 5 9 (.take 6 (.take 7 (.take 8 (.one 9 (.one 10 (.take 11 .done)))))) (.one 5 (.take 6 (.take 7 (.take 8 (.one 10 (.take 11 .done))))))) (.one 3 (.one 5 (.take 6 (.take 7 (.take 8 (.one 10 (.take 11 .done)))))))) (.one 1 (.one 3 (.one 5 (.take 6 (.take 7 (.take 8 (.one 10 (.take 11 .done)))))))))))) (by kernel_rfl) ?_
    repeat first|(apply y1;apply r0;apply r0)|(apply y2;apply r0;apply r0;(with_reducible repeat first|assumption|apply pg|exact mm0);apply r0)
    refine e_two rfl rfl ?_ ?_
    · repeat (apply x9;apply r0)
      refine tree15_c hg (by with_reducible repeat first|exact q1 ‹_›|apply q4) (fun L hL hLl => ?_)
      repeat apply w4
      refine e_two rfl rfl ?_ ?_
      · repeat (apply x9;apply r0)
        refine who15_c ?_
        repeat apply w4
        refine e_two rfl rfl ?_ ?_
        · repeat (apply x9;apply r0)
          refine rrmdir_c hL htr hc (by omega) (fun M hM _ => ?_)
          repeat first|apply w4|(apply y1;apply r0;apply r0)|(apply y4;apply r0)
          skip
          refine s_alloc tk rfl rfl rfl (fun b24 hb24 => ?_); have hb := hb24; (try simp only [put_none_iff, prot_none_iff] at hb); (repeat obtain ⟨_, _, hb⟩ := hb)
          repeat first|(apply xst;apply r0;(apply ps);apply r0)|apply w4|(apply y1;apply r0;apply r0)|apply y0|(apply y4;apply r0)
          skip
          simp only [put_put]
          refine prot_done_put (by simp only [List.mem_cons,List.not_mem_nil,or_false,not_or]; first|exact (by first|assumption|exact n1 ‹_› ‹_›|exact n2 ‹_› ‹_›|exact n3 ‹_› ‹_›|exact n4 ‹_› ‹_›)|exact ⟨(by first|assumption|exact n1 ‹_› ‹_›|exact n2 ‹_› ‹_›|exact n3 ‹_› ‹_›|exact n4 ‹_› ‹_›),(by first|assumption|exact n1 ‹_› ‹_›|exact n2 ‹_› ‹_›|exact n3 ‹_› ‹_›|exact n4 ‹_› ‹_›)⟩|exact ⟨(by first|assumption|exact n1 ‹_› ‹_›|exact n2 ‹_› ‹_›|exact n3 ‹_› ‹_›|exact n4 ‹_› ‹_›),(by first|assumption|exact n1 ‹_› ‹_›|exact n2 ‹_› ‹_›|exact n3 ‹_› ‹_›|exact n4 ‹_› ‹_›),(by first|assumption|exact n1 ‹_› ‹_›|exact n2 ‹_› ‹_›|exact n3 ‹_› ‹_›|exact n4 ‹_› ‹_›)⟩) ?_
          repeat apply w5
          exact ⟨b24, M, hb, hM, (by repeat (first | exact Fr.sub_nil _ | refine Fr.sub_cons rfl ?_)), s0⟩
        · skip
          refine s_alloc tk rfl rfl rfl (fun b24 hb24 => ?_); have hb := hb24; (try simp only [put_none_iff, prot_none_iff] at hb); (repeat obtain ⟨_, _, hb⟩ := hb)
          repeat first|(apply x9;apply r0)|apply w4|(apply y4;apply r0)
          skip
          refine rrmdir_c hL htr hc (by omega) (fun M hM _ => ?_)
          repeat first|(apply xst;apply r0;(apply ps);apply r0)|apply w4|(apply y1;apply r0;apply r0)|apply y0|(apply y4;apply r0)
          simp only [put_put]
          refine prot_done_put (by simp only [List.mem_cons,List.not_mem_nil,or_false,not_or]; first|exact (by first|assumption|exact n1 ‹_› ‹_›|exact n2 ‹_› ‹_›|exact n3 ‹_› ‹_›|exact n4 ‹_› ‹_›)|exact ⟨(by first|assumption|exact n1 ‹_› ‹_›|exact n2 ‹_› ‹_›|exact n3 ‹_› ‹_›|exact n4 ‹_› ‹_›),(by first|assumption|exact n1 ‹_› ‹_›|exact n2 ‹_› ‹_›|exact n3 ‹_› ‹_›|exact n4 ‹_› ‹_›)⟩|exact ⟨(by first|assumption|exact n1 ‹_› ‹_›|exact n2 ‹_› ‹_›|exact n3 ‹_› ‹_›|exact n4 ‹_› ‹_›),(by first|assumption|exact n1 ‹_› ‹_›|exact n2 ‹_› ‹_›|exact n3 ‹_› ‹_›|exact n4 ‹_› ‹_›),(by first|assumption|exact n1 ‹_› ‹_›|exact n2 ‹_› ‹_›|exact n3 ‹_› ‹_›|exact n4 ‹_› ‹_›)⟩) ?_
          repeat apply w5
          exact ⟨b24, M, hb, hM, (by repeat (first | exact Fr.sub_nil _ | refine Fr.sub_cons rfl ?_)), s0⟩
      · skip
        refine s_alloc tk rfl rfl rfl (fun b24 hb24 => ?_); have hb := hb24; (try simp only [put_none_iff, prot_none_iff] at hb); (repeat obtain ⟨_, _, hb⟩ := hb)
        repeat first|(apply x9;apply r0)|apply w4|(apply y4;apply r0)
        skip
        refine who15_c ?_
        repeat first|(apply x9;apply r0)|apply w4|(apply y4;apply r0)
        skip
        refine rrmdir_c hL htr hc (by omega) (fun M hM _ => ?_)
        repeat first|(apply xst;apply r0;(apply ps);apply r0)|apply w4|(apply y1;apply r0;apply r0)|apply y0|(apply y4;apply r0)
        simp only [put_put]
        refine prot_done_put (by simp only [List.mem_cons,List.not_mem_nil,or_false,not_or]; first|exact (by first|assumption|exact n1 ‹_› ‹_›|exact n2 ‹_› ‹_›|exact n3 ‹_› ‹_›|exact n4 ‹_› ‹_›)|exact ⟨(by first|assumption|exact n1 ‹_› ‹_›|exact n2 ‹_› ‹_›|exact n3 ‹_› ‹_›|exact n4 ‹_› ‹_›),(by first|assumption|exact n1 ‹_› ‹_›|exact n2 ‹_› ‹_›|exact n3 ‹_› ‹_›|exact n4 ‹_› ‹_›)⟩|exact ⟨(by first|assumption|exact n1 ‹_› ‹_›|exact n2 ‹_› ‹_›|exact n3 ‹_› ‹_›|exact n4 ‹_› ‹_›),(by first|assumption|exact n1 ‹_› ‹_›|exact n2 ‹_› ‹_›|exact n3 ‹_› ‹_›|exact n4 ‹_› ‹_›),(by first|assumption|exact n1 ‹_› ‹_›|exact n2 ‹_› ‹_›|exact n3 ‹_› ‹_›|exact n4 ‹_› ‹_›)⟩) ?_
        repeat apply w5
        exact ⟨b24, M, hb, hM, (by repeat (first | exact Fr.sub_nil _ | refine Fr.sub_cons rfl ?_)), s0⟩
    · skip
      refine s_alloc tk rfl rfl rfl (fun b24 hb24 => ?_); have hb := hb24; (try simp only [put_none_iff, prot_none_iff] at hb); (repeat obtain ⟨_, _, hb⟩ := hb)
      repeat first|(apply x9;apply r0)|apply w4|(apply y4;apply r0)
      skip
      refine tree15_c hg (by with_reducible repeat first|exact q1 ‹_›|apply q4|apply q3|exact n2 ‹_› ‹_›) (fun L hL hLl => ?_)
      repeat first|(apply x9;apply r0)|apply w4|(apply y4;apply r0)
      skip
      refine who15_c ?_
      repeat first|(apply x9;apply r0)|apply w4|(apply y4;apply r0)
      skip
      refine rrmdir_c hL htr hc (by omega) (fun M hM _ => ?_)
      repeat first|(apply xst;apply r0;(apply ps);apply r0)|apply w4|(apply y1;apply r0;apply r0)|apply y0|(apply y4;apply r0)
      simp only [put_put]
      refine prot_done_put (by simp only [List.mem_cons,List.not_mem_nil,or_false,not_or]; first|exact (by first|assumption|exact n1 ‹_› ‹_›|exact n2 ‹_› ‹_›|exact n3 ‹_› ‹_›|exact n4 ‹_› ‹_›)|exact ⟨(by first|assumption|exact n1 ‹_› ‹_›|exact n2 ‹_› ‹_›|exact n3 ‹_› ‹_›|exact n4 ‹_› ‹_›),(by first|assumption|exact n1 ‹_› ‹_›|exact n2 ‹_› ‹_›|exact n3 ‹_› ‹_›|exact n4 ‹_› ‹_›)⟩|exact ⟨(by first|assumption|exact n1 ‹_› ‹_›|exact n2 ‹_› ‹_›|exact n3 ‹_› ‹_›|exact n4 ‹_› ‹_›),(by first|assumption|exact n1 ‹_› ‹_›|exact n2 ‹_› ‹_›|exact n3 ‹_› ‹_›|exact n4 ‹_› ‹_›),(by first|assumption|exact n1 ‹_› ‹_›|exact n2 ‹_› ‹_›|exact n3 ‹_› ‹_›|exact n4 ‹_› ‹_›)⟩) ?_
      repeat apply w5
      exact ⟨b24, M, hb, hM, (by repeat (first | exact Fr.sub_nil _ | refine Fr.sub_cons rfl ?_)), s0⟩
  rintro F' H' ⟨b24, M2, h24, hM2, hF, hH⟩
  refine AW_sub ?_ hF hH
  clear hF hH
  have f24 : H b24 = none := sub_none zs h24
  have n924 : b9 ≠ b24 := rd_ne z9 h24
  have nt24 : t ≠ b24 := get_ne zT h24
  have nu24 : u ≠ b24 := get_ne zU h24
  have nw24 : w ≠ b24 := get_ne zW h24
  have n2224 : b22 ≠ b24 := rd_ne z22 h24
  have n24t : b24 ≠ t := Ne.symm nt24
  have n24u : b24 ≠ u := Ne.symm nu24
  have n24w : b24 ≠ w := Ne.symm nw24
  repeat first|(apply x1;apply r0;apply r0)|(apply x9;apply r0)|apply w6|apply w7
  refine tree15_c hg (by with_reducible repeat first|assumption|exact q1 ‹_›|apply q3) (fun L hL hLl => ?_)
  repeat first|(apply x1;apply r0;apply r0)|(apply x9;apply r0)
  refine rfreen_c hL hop (fun M3 hM3 hMl3 => ?_)
  repeat (apply x1;apply r0;apply r0)
  refine s_alloc tk rfl rfl rfl (fun b26 hb26 => ?_); have hb := hb26; (try simp only [put_none_iff, prot_none_iff] at hb); (repeat obtain ⟨_, _, hb⟩ := hb)
  repeat first|(apply gO;first|(apply x1;apply r0;apply r0)|(apply x2;apply r0;(with_reducible repeat first|assumption|apply ps|apply q3|exact n1 ‹_› ‹_›);apply r0)|(apply xst;apply r0;(with_reducible repeat first|assumption|apply ps|apply q3|exact n1 ‹_› ‹_›);apply r0)|(apply x9;apply r0)|apply w4)|(apply gW;first|apply w6|apply w7)|apply w5
  refine unlink_c hg hc hop (by with_reducible repeat first|assumption|apply gp|exact n2 ‹_› ‹_›) ?_
  generalize T.unlinkF c (T.resolve c path false) op = A at hM1 hgA ⊢
  repeat first|(apply x1;apply r0;apply r0)|(apply x2;apply r0;(with_reducible repeat first|assumption|apply q3|exact n1 ‹_› ‹_›);apply r0)|(apply x9;apply r0)|apply w4|apply w6|apply w7|apply w5
  refine rmdir_c hg hc (by with_reducible repeat first|assumption|apply gp|exact n2 ‹_› ‹_›) ?_
  generalize T.rmdirF c (T.resolve c path false) = B at hM2 hgB ⊢
  repeat first|(apply x1;apply r0;apply r0)|(apply x9;apply r0)|apply w4|apply w6|apply w7|apply w5
  refine free_c hg hop (by with_reducible repeat first|assumption|apply gp|exact n2 ‹_› ‹_›) ?_
  generalize T.freeN i op = C at hM3 hgC ⊢
  generalize hV : AHeap.put _ w _ = V
  have vT : Rd V t (encTab A.1) := by rw [← hV]; exact (by apply rd_eq;(focus with_reducible repeat first|assumption|apply q0|apply q3);rfl)
  have vU : Rd V u (encTab B.1) := by rw [← hV]; exact (by apply rd_eq;(focus with_reducible repeat first|assumption|apply q0|apply q3);rfl)
  have vW : Rd V w (encTab C.1) := by rw [← hV]; exact (by apply rd_eq;(focus apply q0);rfl)
  have v9 : Rd V b9 (encCred c) := by rw [← hV]; exact (by apply rd_eq;(focus with_reducible repeat first|assumption|apply q3|exact n1 ‹_› ‹_›);rfl)
  have v22 : Rd V b22 (encT M1) := by rw [← hV]; exact (by apply rd_eq;(focus with_reducible repeat first|assumption|apply q3|exact n1 ‹_› ‹_›);rfl)
  have v24 : Rd V b24 (encT M2) := by rw [← hV]; exact (by apply rd_eq;(focus with_reducible repeat first|assumption|apply q0|apply q3);rfl)
  have v26 : Rd V b26 (encT M3) := by rw [← hV]; exact (by apply rd_eq;(focus with_reducible repeat first|apply q0|apply q3|exact n4 ‹_› ‹_›);rfl)
  have vs : H.sub V := by rw [← hV]; exact (by repeat first|assumption|(apply su1;assumption)|(apply su3;assumption;assumption))
  clear hV
  repeat first|(apply x1;apply r0;apply r0)|apply w4|apply w6|apply w5
  refine aw_prot [b9, t, u, w, b22, b24, b26] (allc (by with_reducible assumption) (allc (by with_reducible assumption) (allc (by with_reducible assumption) (allc (by with_reducible assumption) (allc (by with_reducible assumption) (allc (by with_reducible assumption) (allc (by with_reducible assumption) (allc0 _)))))))) ?_
  refine aw_plan mixed (.take 0 (.take 1 (.take 2 (.take 3 (.take 4 (.take 5 (.take 6 (.take 7 (.take 8 (.take 9 (.take 11 (.one 10 (.one 12 (.take 13 (.take 14 (.take 15 (.take 16 (.take 17 (.take 18 (.take 19 (.take 20 (.take 22 (.one 21 (.one 23 (.take 24 (.take 25 (.take 26 (.take 27 (.take 28 (.take 29 (.take 30 (.take 31 (.take 33 (.one 32 (.one 34 (.take 35 (.take 36 (.take 37 (.take 38 (.one 39 (.take 40 (.take 41 (.take 42 (.take 43 (.take 44 (.one 45 (.take 46 (.take 47 (.take 48 (.take 49 (.one 50 (.take 51 (.take 52 (.take 53 .done)))))))))))))))))))))))))))))))))))))))))))))))))))))) (by kernel_rfl) ?_
  repeat (apply y1;apply r0;apply r0)
  refine d_split rfl rfl rfl (fun e1 => ?_) (fun e1 => ?_)<;>first|replace e1:=of_decide_eq_true e1|replace e1:=of_decide_eq_false e1
  case refine_2 => exact (e1 rfl).elim
  repeat first|(apply y1;apply r0;apply r0)|(apply take1_ok;apply r0)
  refine d_split rfl rfl rfl (fun e2 => ?_) (fun e2 => ?_)<;>first|replace e2:=of_decide_eq_true e2|replace e2:=of_decide_eq_false e2
  case refine_2 => exact (e2 rfl).elim
  repeat first|(apply x5;apply r0)|(apply x9;apply r0)|(apply take1_ok;apply r0)|(apply y4;apply r0)|(apply y2;apply r0;apply r0;(with_reducible repeat first|assumption|apply pg|exact mm0|apply mm1);apply r0)
  refine tree15_c hgA (by with_reducible repeat first|assumption|apply q4) (fun L hL hLl => ?_)
  repeat first|(apply x5;apply r0)|(apply x9;apply r0)|apply w4|(apply y4;apply r0)
  refine rtsame_c (Nat.le_trans hL.rel.most (by decide)) (Nat.le_trans (hM1).rel.most (by decide)) (fun i => by rw [hL.get i]; exact few_nlen (at_few hgA i)) ?_
  rw [same_tells15 hL hM1]
  clear hLl hL
  repeat first|apply w4|(apply y1;apply r0;apply r0)|(apply take1_ok;apply r0)
  refine d_split rfl rfl rfl (fun e3 => ?_) (fun e3 => ?_)<;>first|replace e3:=of_decide_eq_true e3|replace e3:=of_decide_eq_false e3
  case refine_2 => exact (e3 rfl).elim
  repeat first|(apply x5;apply r0)|(apply x9;apply r0)|(apply take1_ok;apply r0)|(apply y4;apply r0)|(apply y2;apply r0;apply r0;(with_reducible repeat first|assumption|apply pg|exact mm0|apply mm1);apply r0)
  refine tree15_c hgB (by with_reducible repeat first|assumption|apply q4) (fun L hL hLl => ?_)
  repeat first|(apply x5;apply r0)|(apply x9;apply r0)|apply w4|(apply y4;apply r0)
  refine rtsame_c (Nat.le_trans hL.rel.most (by decide)) (Nat.le_trans (hM2).rel.most (by decide)) (fun i => by rw [hL.get i]; exact few_nlen (at_few hgB i)) ?_
  rw [same_tells15 hL hM2]
  clear hLl hL
  repeat first|apply w4|(apply y1;apply r0;apply r0)|(apply take1_ok;apply r0)
  refine d_split rfl rfl rfl (fun e4 => ?_) (fun e4 => ?_)<;>first|replace e4:=of_decide_eq_true e4|replace e4:=of_decide_eq_false e4
  case refine_2 => exact (e4 rfl).elim
  repeat first|(apply x5;apply r0)|(apply x9;apply r0)|(apply take1_ok;apply r0)|(apply y4;apply r0)|(apply y2;apply r0;apply r0;(with_reducible repeat first|assumption|apply pg|exact mm0|apply mm1);apply r0)
  refine tree15_c hgC (by with_reducible repeat first|assumption|apply q4) (fun L hL hLl => ?_)
  repeat first|(apply x5;apply r0)|(apply x9;apply r0)|apply w4|(apply y4;apply r0)
  refine rtsame_c (Nat.le_trans hL.rel.most (by decide)) (Nat.le_trans (hM3).rel.most (by decide)) (fun i => by rw [hL.get i]; exact few_nlen (at_few hgC i)) ?_
  rw [same_tells15 hL hM3]
  clear hLl hL
  repeat first|(apply x5;apply r0)|(apply x9;apply r0)|apply w4|(apply y1;apply r0;apply r0)|(apply take1_ok;apply r0)|(apply y4;apply r0)|(apply y2;apply r0;apply r0;(with_reducible repeat first|assumption|apply pg|exact mm0);apply r0)
  refine unlink_nil (fun e he => ?_)
  repeat first|apply w4|(apply y1;apply r0;apply r0)|(apply take1_ok;apply r0)
  refine d_split rfl rfl rfl (fun e5 => ?_) (fun e5 => ?_)<;>first|replace e5:=not_t e5|replace e5:=not_f e5
  case refine_2 => exact absurd he (fun q => q e5)
  repeat first|(apply x5;apply r0)|(apply x9;apply r0)|(apply take1_ok;apply r0)|(apply y4;apply r0)|(apply y2;apply r0;apply r0;(with_reducible repeat first|assumption|apply pg|exact mm0);apply r0)
  refine rmdir_nil (fun e he => ?_)
  repeat first|apply w4|(apply y1;apply r0;apply r0)|(apply take1_ok;apply r0)
  refine d_split rfl rfl rfl (fun e6 => ?_) (fun e6 => ?_)<;>first|replace e6:=not_t e6|replace e6:=not_f e6
  case refine_2 => exact absurd he (fun q => q e6)
  repeat first|(apply x5;apply r0)|(apply x9;apply r0)|(apply take1_ok;apply r0)|(apply y4;apply r0)
  refine free_nil ?_
  repeat first|apply w4|(apply y1;apply r0;apply r0)|apply y0|(apply take1_ok;apply r0)
  refine prot_done ?_
  repeat first|apply wd|apply w5
  exact rt1 (H' := H) rfl rfl (.refl _) (by repeat assumption) hK
end Abs
end Go.Proofs.YtpmnfbgnlanpoaaGreat
