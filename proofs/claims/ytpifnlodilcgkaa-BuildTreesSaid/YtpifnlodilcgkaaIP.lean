import Derived.Test.YtpifnlodilcgkaaGE
import Derived.Test.YtpifnlodilcgkaaIJ
set_option linter.unusedVariables false
namespace Go.Proofs.Ytpifnlodilcgkaa
namespace Abs
set_option linter.unusedSimpArgs false
set_option maxRecDepth 10000
set_option maxHeartbeats 2000000
attribute [local irreducible] AOps AW AP ACalls thenQ inBlk noGoto

/-! ### the document's chapter 10: one -/
theorem rone_c {T : Tab} {L : List Node} (ht : Tells T L) (hlen : L.length = T.room.toNat) {r : Raw} (hr : r.few) {H : AHeap} {K : AVal → AHeap → Prop}
    (hK : ∀ M, ((r.one T).2 = 0 → Tells (r.one T).1 M ∧ M.length = L.length) → K (.tup [.agg (encT M), .i (r.one T).2]) H) : ACalls Try.prog 54 [.agg (encT L), .agg (encR r)] H K := by
  refine acalls_body Try.func54 rfl rfl rfl ?_
  have hll : L.length ≤ 1000 := Nat.le_trans ht.rel.most (by decide)
  have hg := ht.good
  have hn1 : r.name.size < 4294967281 := Nat.lt_of_le_of_lt hr.1 (by decide)
  obtain ⟨R, hR⟩ : ∃ R, R = r.one T := ⟨_, rfl⟩
  rw [← hR] at hK
  unfold Raw.one at hR
  repeat first|apply w6|apply w7
  refine s_box rfl rfl rfl (fun b2 hb2 => ?_); have hb := hb2; (try simp only [put_none_iff, prot_none_iff] at hb); (repeat obtain ⟨_, _, hb⟩ := hb)
  skip
  refine s_box rfl rfl rfl (fun b3 hb3 => ?_); have hb := hb3; (try simp only [put_none_iff, prot_none_iff] at hb); (repeat obtain ⟨_, _, hb⟩ := hb)
  skip
  refine s_alloc tk rfl rfl rfl (fun b4 hb4 => ?_); have hb := hb4; (try simp only [put_none_iff, prot_none_iff] at hb); (repeat obtain ⟨_, _, hb⟩ := hb)
  repeat first|(apply x1;apply r0;apply r0)|(apply x2;apply r0;(with_reducible repeat first|assumption|apply q0|apply q3);apply r0)|(apply x9;apply r0)|apply w4|apply w6|apply w7|apply w5
  refine ris_c ht.len ?_
  rw [l_has hg.wf ht.rel]
  cases hh : T.has r.parent with
  | false =>
    rw [hh, if_neg (by decide)] at hR
    rw [hR] at hK
    repeat first|(apply gO;first|(apply x1;apply r0;apply r0)|(apply x2;apply r0;(with_reducible repeat first|assumption|apply q0|apply ps|apply q3);apply r0)|(apply xst;apply r0;(with_reducible repeat first|assumption|apply q0|apply ps|apply q3);apply r0)|apply w4)|(apply gW;first|apply w6|apply w7|(apply w8;apply r0)|apply wd)|apply w5|apply we
    exact rt2c (H' := H) rfl rfl (by apply q0) rfl (by rfl) rfl (by exact .pair (wk_agg rfl) (.refl _)) (by repeat first|exact s0|(apply su1;assumption)) (hK _ (fun q => by simp at q))
  | true =>
    rw [hh, if_pos rfl] at hR
    repeat first|(apply gO;first|(apply x1;apply r0;apply r0)|(apply x2;apply r0;(with_reducible repeat first|assumption|apply q0|apply q3);apply r0)|apply w4)|(apply gW;first|apply w6|apply w7|(apply w9;apply r0)|apply wa)|apply w5
    refine aw_cond rfl (fun k4 => ?_) (fun k4 => ?_)<;>first|replace k4:=of_decide_eq_true k4|replace k4:=of_decide_eq_false k4
    · have k4' : r.kind = 4 := k4
      have htT : r.told T = if T.has r.node = true then (if (T.get r.node).kind = 2 then (T, 0, 1) else (T, r.node, 0)) else (T, 0, 2) := by unfold Raw.told; rw [if_neg (fun q => q k4')]
      repeat first|(apply x1;apply r0;apply r0)|(apply x2;apply r0;(with_reducible repeat first|assumption|apply q0|apply q3);apply r0)|(apply x9;apply r0)|apply w6|apply w7
      refine rget_c ht.len ?_
      rw [ht.get]
      skip
      refine s_field tk rfl rfl rfl rfl rfl rfl ?_
      repeat first|(apply x1;apply r0;apply r0)|apply w4|apply w6|apply w7|apply w5
      refine aw_cond rfl (fun z0 => ?_) (fun z0 => ?_)<;>first|replace z0:=of_decide_eq_true z0|replace z0:=of_decide_eq_false z0
      · have hn : ¬ T.has r.node = true := by rw [(at_kind _).1 z0]; decide
        rw [if_neg hn] at htT
        have hR2 : R = (T, 2) := by rw [hR, htT]; rfl
        rw [hR2] at hK
        repeat first|(apply gO;first|(apply x1;apply r0;apply r0)|(apply x2;apply r0;(with_reducible repeat first|assumption|apply q0|apply ps|apply q3);apply r0)|(apply xst;apply r0;(with_reducible repeat first|assumption|apply q0|apply ps|apply q3);apply r0)|apply w4)|(apply gW;first|apply w6|apply w7|apply wd)|apply w5|apply we
        exact rt2c (H' := H) rfl rfl (by apply q0) rfl (by rfl) rfl (by exact .pair (wk_agg rfl) (.refl _)) (by repeat first|exact s0|(apply su1;assumption)) (hK _ (fun q => by simp at q))
      have hn : T.has r.node = true := has_kind'.2 z0
      rw [if_pos hn, ← at_has hn] at htT
      repeat first|(apply x1;apply r0;apply r0)|apply w4|apply w6|apply w7|apply wa|apply w5
      refine aw_cond rfl (fun z2 => ?_) (fun z2 => ?_)<;>first|replace z2:=of_decide_eq_true z2|replace z2:=of_decide_eq_false z2
      · have z2' : (T.at r.node).kind = 2 := z2
        rw [if_pos z2'] at htT
        have hR2 : R = (T, 1) := by rw [hR, htT]; rfl
        rw [hR2] at hK
        repeat first|(apply gO;first|(apply x1;apply r0;apply r0)|(apply x2;apply r0;(with_reducible repeat first|assumption|apply q0|apply ps|apply q3);apply r0)|(apply xst;apply r0;(with_reducible repeat first|assumption|apply q0|apply ps|apply q3);apply r0)|apply w4)|(apply gW;first|apply w6|apply w7|apply wd)|apply w5|apply we
        exact rt2c (H' := H) rfl rfl (by apply q0) rfl (by rfl) rfl (by exact .pair (wk_agg rfl) (.refl _)) (by repeat first|exact s0|(apply su1;assumption)) (hK _ (fun q => by simp at q))
      have z2' : ¬ (T.at r.node).kind = 2 := z2
      rw [if_neg z2'] at htT
      have hR2 : R = if ¬ (T.at r.parent).withE r.name r.node = 0 then (T, (T.at r.parent).withE r.name r.node) else T.putE r.parent ((T.at r.parent).withN r.name r.node) := by rw [hR, htT]; rfl
      have hpw := put_with (T := T) hg hh (name := r.name) (id := r.node)
      have hM := ht
      have hMl : L.length = L.length := rfl
      have hMl2 := hll
      have hp1 := hh
      have hfd := at_few hg r.parent
      have hsd := hfd.small
      have hnd := few_nlen hfd
      have hzl := withN_sizes hfd hr.1 r.node
      generalize hze : (T.at r.parent).withE r.name r.node = ze at hR2 hpw
      generalize hzn : (T.at r.parent).withN r.name r.node = zn at hR2 hpw hzl
      repeat first|apply w6|apply wa|apply w5
      generalize hX : AHeap.put _ b4 _ = X
      have x2' : X b2 = some (.cells (encT L)) := by rw [← hX]; exact (by apply get_eq;(focus with_reducible repeat first|assumption|apply ps|apply gp);rfl)
      have x3' : X b3 = some (.cells (encR r)) := by rw [← hX]; exact (by apply get_eq;(focus with_reducible repeat first|assumption|apply ps|apply gp);rfl)
      have x4' : X b4 = some (.cells [.sl [] .full]) := by rw [← hX]; exact (by apply get_eq;(focus apply ps);rfl)
      have xs' : H.sub X := by rw [← hX]; exact (by repeat first|exact s0|(apply su1;assumption))
      clear hX
      refine aw_cutS (fun F' H' => ∃ b12, X b12 = none ∧ Fr.sub [(2, .ptr b2 0), (3, .ptr b3 0), (4, .ptr b4 0), (12, .ptr b12 0), (13, .i ze)] F' ∧ (X.put b12 (.cells (encM zn))).sub H') ?_ ?_
      · refine aw_prot [b2, b3] (allc (by with_reducible repeat exact q1 ‹_›) (allc (by with_reducible repeat exact q1 ‹_›) (allc0 _))) ?_
        refine aw_plan mixed (.take 0 (.take 1 (.take 2 (.take 4 (.take 5 (.take 6 (.two 3 11 (.two 7 11 (.take 8 (.take 9 (.take 10 (.one 11 (.one 12 (.take 13 .done)))))) (.one 7 (.take 8 (.take 9 (.take 10 (.one 12 (.take 13 .done))))))) (.one 3 (.one 7 (.take 8 (.take 9 (.take 10 (.one 12 (.take 13 .done)))))))))))))) (by kernel_rfl) ?_
        repeat first|(apply y1;apply r0;apply r0)|(apply y2;apply r0;apply r0;(with_reducible repeat first|exact q1 ‹_›|apply pg|exact mm0|apply mm1);apply r0)
        refine e_two rfl rfl ?_ ?_
        · repeat (apply x9;apply r0)
          refine rget_c hM.len ?_
          rw [hM.get]
          repeat apply w4
          refine e_two rfl rfl ?_ ?_
          · repeat (apply x9;apply r0)
            refine rnwith_c hsd hnd hn1 ?_
            rw [rwith_eq, hze, hzn]
            repeat first|apply w4|(apply y1;apply r0;apply r0)|(apply y4;apply r0)
            refine s_alloc tk rfl rfl rfl (fun b12 hb12 => ?_); have hb := hb12; (try simp only [put_none_iff, prot_none_iff] at hb); (repeat obtain ⟨_, _, hb⟩ := hb)
            repeat first|(apply xst;apply r0;(apply ps);apply r0)|apply w4|(apply y1;apply r0;apply r0)|apply y0|(apply y4;apply r0)
            simp only [put_put]
            refine prot_done_put (by simp only [List.mem_cons,List.not_mem_nil,or_false,not_or]; first|exact (by first|assumption|exact n1 ‹_› ‹_›|exact n2 ‹_› ‹_›|exact n3 ‹_› ‹_›|exact n4 ‹_› ‹_›)|exact ⟨(by first|assumption|exact n1 ‹_› ‹_›|exact n2 ‹_› ‹_›|exact n3 ‹_› ‹_›|exact n4 ‹_› ‹_›),(by first|assumption|exact n1 ‹_› ‹_›|exact n2 ‹_› ‹_›|exact n3 ‹_› ‹_›|exact n4 ‹_› ‹_›)⟩|exact ⟨(by first|assumption|exact n1 ‹_› ‹_›|exact n2 ‹_› ‹_›|exact n3 ‹_› ‹_›|exact n4 ‹_› ‹_›),(by first|assumption|exact n1 ‹_› ‹_›|exact n2 ‹_› ‹_›|exact n3 ‹_› ‹_›|exact n4 ‹_› ‹_›),(by first|assumption|exact n1 ‹_› ‹_›|exact n2 ‹_› ‹_›|exact n3 ‹_› ‹_›|exact n4 ‹_› ‹_›)⟩) ?_
            repeat apply w5
            exact ⟨b12, hb, (by repeat (first | exact Fr.sub_nil _ | refine Fr.sub_cons rfl ?_)), AHeap.sub_refl _⟩
          · skip
            refine s_alloc tk rfl rfl rfl (fun b12 hb12 => ?_); have hb := hb12; (try simp only [put_none_iff, prot_none_iff] at hb); (repeat obtain ⟨_, _, hb⟩ := hb)
            repeat first|(apply x9;apply r0)|apply w4|(apply y4;apply r0)
            refine rnwith_c hsd hnd hn1 ?_
            rw [rwith_eq, hze, hzn]
            repeat first|(apply xst;apply r0;(apply ps);apply r0)|apply w4|(apply y1;apply r0;apply r0)|apply y0|(apply y4;apply r0)
            simp only [put_put]
            refine prot_done_put (by simp only [List.mem_cons,List.not_mem_nil,or_false,not_or]; first|exact (by first|assumption|exact n1 ‹_› ‹_›|exact n2 ‹_› ‹_›|exact n3 ‹_› ‹_›|exact n4 ‹_› ‹_›)|exact ⟨(by first|assumption|exact n1 ‹_› ‹_›|exact n2 ‹_› ‹_›|exact n3 ‹_› ‹_›|exact n4 ‹_› ‹_›),(by first|assumption|exact n1 ‹_› ‹_›|exact n2 ‹_› ‹_›|exact n3 ‹_› ‹_›|exact n4 ‹_› ‹_›)⟩|exact ⟨(by first|assumption|exact n1 ‹_› ‹_›|exact n2 ‹_› ‹_›|exact n3 ‹_› ‹_›|exact n4 ‹_› ‹_›),(by first|assumption|exact n1 ‹_› ‹_›|exact n2 ‹_› ‹_›|exact n3 ‹_› ‹_›|exact n4 ‹_› ‹_›),(by first|assumption|exact n1 ‹_› ‹_›|exact n2 ‹_› ‹_›|exact n3 ‹_› ‹_›|exact n4 ‹_› ‹_›)⟩) ?_
            repeat apply w5
            exact ⟨b12, hb, (by repeat (first | exact Fr.sub_nil _ | refine Fr.sub_cons rfl ?_)), AHeap.sub_refl _⟩
        · skip
          refine s_alloc tk rfl rfl rfl (fun b12 hb12 => ?_); have hb := hb12; (try simp only [put_none_iff, prot_none_iff] at hb); (repeat obtain ⟨_, _, hb⟩ := hb)
          repeat first|(apply x9;apply r0)|apply w4|(apply y4;apply r0)
          refine rget_c hM.len ?_
          rw [hM.get]
          repeat first|(apply x9;apply r0)|apply w4|(apply y4;apply r0)
          refine rnwith_c hsd hnd hn1 ?_
          rw [rwith_eq, hze, hzn]
          repeat first|(apply xst;apply r0;(apply ps);apply r0)|apply w4|(apply y1;apply r0;apply r0)|apply y0|(apply y4;apply r0)
          simp only [put_put]
          refine prot_done_put (by simp only [List.mem_cons,List.not_mem_nil,or_false,not_or]; first|exact (by first|assumption|exact n1 ‹_› ‹_›|exact n2 ‹_› ‹_›|exact n3 ‹_› ‹_›|exact n4 ‹_› ‹_›)|exact ⟨(by first|assumption|exact n1 ‹_› ‹_›|exact n2 ‹_› ‹_›|exact n3 ‹_› ‹_›|exact n4 ‹_› ‹_›),(by first|assumption|exact n1 ‹_› ‹_›|exact n2 ‹_› ‹_›|exact n3 ‹_› ‹_›|exact n4 ‹_› ‹_›)⟩|exact ⟨(by first|assumption|exact n1 ‹_› ‹_›|exact n2 ‹_› ‹_›|exact n3 ‹_› ‹_›|exact n4 ‹_› ‹_›),(by first|assumption|exact n1 ‹_› ‹_›|exact n2 ‹_› ‹_›|exact n3 ‹_› ‹_›|exact n4 ‹_› ‹_›),(by first|assumption|exact n1 ‹_› ‹_›|exact n2 ‹_› ‹_›|exact n3 ‹_› ‹_›|exact n4 ‹_› ‹_›)⟩) ?_
          repeat apply w5
          exact ⟨b12, hb, (by repeat (first | exact Fr.sub_nil _ | refine Fr.sub_cons rfl ?_)), AHeap.sub_refl _⟩
      rintro F' H' ⟨b12, hb12, hF, hH⟩
      refine AW_sub ?_ hF hH
      clear hF hH
      repeat first|(apply x1;apply r0;apply r0)|apply w4|apply w6|apply w7|apply w5
      refine aw_cond rfl (fun d => ?_) (fun d => ?_)<;>first|replace d:=not_t d|replace d:=not_f d
      · have hR3 : R.2 = ze := by rw [hR2, if_pos d]
        have hze0 : ¬ R.2 = 0 := by rw [hR3]; exact d
        rw [hR3] at hK
        repeat first|(apply gO;first|(apply x1;apply r0;apply r0)|(apply x2;apply r0;(with_reducible repeat first|assumption|exact q1 ‹_›|apply q3|apply gp|exact n2 ‹_› ‹_›);apply r0)|(apply xst;apply r0;(with_reducible repeat first|assumption|exact q1 ‹_›|apply q3|apply gp|exact n2 ‹_› ‹_›);apply r0)|apply w4)|(apply gW;first|apply w6|apply w7|apply wd)|apply w5|apply we
        exact rt2c (H' := H) rfl rfl (by apply q0) rfl (by rfl) rfl (by exact .pair (wk_agg rfl) (.refl _)) (by repeat first|assumption|(apply su1;assumption)|(apply su3;assumption;assumption)) (hK _ (fun q => absurd q (by rw [← hR3]; exact hze0)))
      · have d' : ze = 0 := d
        obtain ⟨vq1, vq2, -⟩ := hpw d'
        have hR3 : R = ((T).put (r.parent - 1).toNat zn, 0) := by rw [hR2, if_neg (fun q => q d), vq1]
        have htp := tells_put hM hp1 (.inr vq2)
        rw [hR3] at hK
        repeat first|(apply x1;apply r0;apply r0)|(apply x2;apply r0;(with_reducible repeat first|apply q0|exact q1 ‹_›|apply q3|exact n2 ‹_› ‹_›);apply r0)|(apply x9;apply r0)|apply w6|apply w7|apply wa|apply w5
        refine rput_c (n := zn) hMl2 hzl.2 ?_
        rw [l_has hM.good.wf hM.rel, hp1, vq2]
        repeat first|(apply x1;apply r0;apply r0)|(apply xst;apply r0;(with_reducible repeat first|assumption|apply gp|exact n2 ‹_› ‹_›);apply r0)|apply w4|apply wd|apply w5
        exact rt2c (H' := H) rfl rfl (by apply q0) rfl (by rfl) rfl (by exact .pair (wk_agg rfl) (.refl _)) (by repeat first|assumption|(apply su1;assumption)|(apply su3;assumption;assumption)) (hK ((L).set (r.parent - 1).toNat zn) (fun _ => ⟨htp, (List.length_set ..).trans hMl⟩))
    · have k4' : ¬ r.kind = 4 := k4
      have htT : r.told T = T.add r.made := by unfold Raw.told; rw [if_pos k4']
      rw [htT] at hR
      repeat first|(apply x1;apply r0;apply r0)|(apply x2;apply r0;(with_reducible repeat first|assumption|apply q0|apply q3);apply r0)|(apply x9;apply r0)|apply w6|apply w7
      refine radd2_c ht hlen (n := r.made) (few_nlen hr.made) (fun M hM hMl => ?_)
      rcases add_cases T r.made with ⟨k, hf, hok, ha⟩ | ⟨hf, hok, ha⟩ | ⟨hok, ha⟩
      · rw [ha] at hR hM ⊢
        dsimp only at hR hM ⊢
        have hR2 : R = if ¬ ((T.put k r.made).at r.parent).withE r.name ((k : Int) + 1) = 0 then ((T.put k r.made), ((T.put k r.made).at r.parent).withE r.name ((k : Int) + 1)) else (T.put k r.made).putE r.parent (((T.put k r.made).at r.parent).withN r.name ((k : Int) + 1)) := by rw [hR]; rfl
        obtain ⟨j1, j2⟩ := add_has hg hf hok
        obtain ⟨hp1, j4, j5⟩ := j2 r.parent hh
        have hg1 := put_good hg (n := r.made) (.inr hok) k
        have hpw := put_with (T := T.put k r.made) hg1 hp1 (name := r.name) (id := (k : Int) + 1)
        have hMl2 : M.length ≤ 1000 := by rw [hMl]; exact hll
        have hfd := at_few hg1 r.parent
        have hsd := hfd.small
        have hnd := few_nlen hfd
        have hzl := withN_sizes hfd hr.1 ((k : Int) + 1)
        generalize hze : ((T.put k r.made).at r.parent).withE r.name ((k : Int) + 1) = ze at hR2 hpw
        generalize hzn : ((T.put k r.made).at r.parent).withN r.name ((k : Int) + 1) = zn at hR2 hpw hzl
        generalize T.put k r.made = T1 at hM hR2 hpw hp1 hze hzn hfd hsd hnd
        repeat (apply x1;apply r0;apply r0)
        refine s_alloc tk rfl rfl rfl (fun b9 hb9 => ?_); have hb := hb9; (try simp only [put_none_iff, prot_none_iff] at hb); (repeat obtain ⟨_, _, hb⟩ := hb)
        repeat first|(apply gO;first|(apply x1;apply r0;apply r0)|(apply x2;apply r0;(with_reducible repeat first|assumption|apply q0|apply ps|apply gp);apply r0)|(apply xst;apply r0;(with_reducible repeat first|assumption|apply q0|apply ps|apply gp);apply r0)|apply w4)|(apply gW;first|apply w6|apply w7|(apply w9;apply r0)|apply wa)|apply w5
        generalize hX : AHeap.put (AHeap.put _ b9 _) b2 _ = X
        have x2' : X b2 = some (.cells (encT M)) := by rw [← hX]; exact (by apply get_eq;(focus apply ps);rfl)
        have x3' : X b3 = some (.cells (encR r)) := by rw [← hX]; exact (by apply get_eq;(focus with_reducible repeat first|assumption|apply ps|apply gp);rfl)
        have x4' : X b4 = some (.cells [.sl [] .full]) := by rw [← hX]; exact (by apply get_eq;(focus with_reducible repeat first|assumption|apply ps|apply gp);rfl)
        have xs' : H.sub X := by rw [← hX]; exact (by repeat first|exact s0|(apply su1;assumption))
        clear hX
        refine aw_cutS (fun F' H' => ∃ b12, X b12 = none ∧ Fr.sub [(2, .ptr b2 0), (3, .ptr b3 0), (4, .ptr b4 0), (12, .ptr b12 0), (13, .i ze)] F' ∧ (X.put b12 (.cells (encM zn))).sub H') ?_ ?_
        · refine aw_prot [b2, b3] (allc (by with_reducible repeat exact q1 ‹_›) (allc (by with_reducible repeat exact q1 ‹_›) (allc0 _))) ?_
          refine aw_plan mixed (.take 0 (.take 1 (.take 2 (.take 4 (.take 5 (.take 6 (.two 3 11 (.two 7 11 (.take 8 (.take 9 (.take 10 (.one 11 (.one 12 (.take 13 .done)))))) (.one 7 (.take 8 (.take 9 (.take 10 (.one 12 (.take 13 .done))))))) (.one 3 (.one 7 (.take 8 (.take 9 (.take 10 (.one 12 (.take 13 .done)))))))))))))) (by kernel_rfl) ?_
          repeat first|(apply y1;apply r0;apply r0)|(apply y2;apply r0;apply r0;(with_reducible repeat first|exact q1 ‹_›|apply pg|exact mm0|apply mm1);apply r0)
          refine e_two rfl rfl ?_ ?_
          · repeat (apply x9;apply r0)
            refine rget_c hM.len ?_
            rw [hM.get]
            repeat apply w4
            refine e_two rfl rfl ?_ ?_
            · repeat (apply x9;apply r0)
              refine rnwith_c hsd hnd hn1 ?_
              rw [rwith_eq, hze, hzn]
              repeat first|apply w4|(apply y1;apply r0;apply r0)|(apply y4;apply r0)
              refine s_alloc tk rfl rfl rfl (fun b12 hb12 => ?_); have hb := hb12; (try simp only [put_none_iff, prot_none_iff] at hb); (repeat obtain ⟨_, _, hb⟩ := hb)
              repeat first|(apply xst;apply r0;(apply ps);apply r0)|apply w4|(apply y1;apply r0;apply r0)|apply y0|(apply y4;apply r0)
              simp only [put_put]
              refine prot_done_put (by simp only [List.mem_cons,List.not_mem_nil,or_false,not_or]; first|exact (by first|assumption|exact n1 ‹_› ‹_›|exact n2 ‹_› ‹_›|exact n3 ‹_› ‹_›|exact n4 ‹_› ‹_›)|exact ⟨(by first|assumption|exact n1 ‹_› ‹_›|exact n2 ‹_› ‹_›|exact n3 ‹_› ‹_›|exact n4 ‹_› ‹_›),(by first|assumption|exact n1 ‹_› ‹_›|exact n2 ‹_› ‹_›|exact n3 ‹_› ‹_›|exact n4 ‹_› ‹_›)⟩|exact ⟨(by first|assumption|exact n1 ‹_› ‹_›|exact n2 ‹_› ‹_›|exact n3 ‹_› ‹_›|exact n4 ‹_› ‹_›),(by first|assumption|exact n1 ‹_› ‹_›|exact n2 ‹_› ‹_›|exact n3 ‹_› ‹_›|exact n4 ‹_› ‹_›),(by first|assumption|exact n1 ‹_› ‹_›|exact n2 ‹_› ‹_›|exact n3 ‹_› ‹_›|exact n4 ‹_› ‹_›)⟩) ?_
              repeat apply w5
              exact ⟨b12, hb, (by repeat (first | exact Fr.sub_nil _ | refine Fr.sub_cons rfl ?_)), AHeap.sub_refl _⟩
            · skip
              refine s_alloc tk rfl rfl rfl (fun b12 hb12 => ?_); have hb := hb12; (try simp only [put_none_iff, prot_none_iff] at hb); (repeat obtain ⟨_, _, hb⟩ := hb)
              repeat first|(apply x9;apply r0)|apply w4|(apply y4;apply r0)
              refine rnwith_c hsd hnd hn1 ?_
              rw [rwith_eq, hze, hzn]
              repeat first|(apply xst;apply r0;(apply ps);apply r0)|apply w4|(apply y1;apply r0;apply r0)|apply y0|(apply y4;apply r0)
              simp only [put_put]
              refine prot_done_put (by simp only [List.mem_cons,List.not_mem_nil,or_false,not_or]; first|exact (by first|assumption|exact n1 ‹_› ‹_›|exact n2 ‹_› ‹_›|exact n3 ‹_› ‹_›|exact n4 ‹_› ‹_›)|exact ⟨(by first|assumption|exact n1 ‹_› ‹_›|exact n2 ‹_› ‹_›|exact n3 ‹_› ‹_›|exact n4 ‹_› ‹_›),(by first|assumption|exact n1 ‹_› ‹_›|exact n2 ‹_› ‹_›|exact n3 ‹_› ‹_›|exact n4 ‹_› ‹_›)⟩|exact ⟨(by first|assumption|exact n1 ‹_› ‹_›|exact n2 ‹_› ‹_›|exact n3 ‹_› ‹_›|exact n4 ‹_› ‹_›),(by first|assumption|exact n1 ‹_› ‹_›|exact n2 ‹_› ‹_›|exact n3 ‹_› ‹_›|exact n4 ‹_› ‹_›),(by first|assumption|exact n1 ‹_› ‹_›|exact n2 ‹_› ‹_›|exact n3 ‹_› ‹_›|exact n4 ‹_› ‹_›)⟩) ?_
              repeat apply w5
              exact ⟨b12, hb, (by repeat (first | exact Fr.sub_nil _ | refine Fr.sub_cons rfl ?_)), AHeap.sub_refl _⟩
          · skip
            refine s_alloc tk rfl rfl rfl (fun b12 hb12 => ?_); have hb := hb12; (try simp only [put_none_iff, prot_none_iff] at hb); (repeat obtain ⟨_, _, hb⟩ := hb)
            repeat first|(apply x9;apply r0)|apply w4|(apply y4;apply r0)
            refine rget_c hM.len ?_
            rw [hM.get]
            repeat first|(apply x9;apply r0)|apply w4|(apply y4;apply r0)
            refine rnwith_c hsd hnd hn1 ?_
            rw [rwith_eq, hze, hzn]
            repeat first|(apply xst;apply r0;(apply ps);apply r0)|apply w4|(apply y1;apply r0;apply r0)|apply y0|(apply y4;apply r0)
            simp only [put_put]
            refine prot_done_put (by simp only [List.mem_cons,List.not_mem_nil,or_false,not_or]; first|exact (by first|assumption|exact n1 ‹_› ‹_›|exact n2 ‹_› ‹_›|exact n3 ‹_› ‹_›|exact n4 ‹_› ‹_›)|exact ⟨(by first|assumption|exact n1 ‹_› ‹_›|exact n2 ‹_› ‹_›|exact n3 ‹_› ‹_›|exact n4 ‹_› ‹_›),(by first|assumption|exact n1 ‹_› ‹_›|exact n2 ‹_› ‹_›|exact n3 ‹_› ‹_›|exact n4 ‹_› ‹_›)⟩|exact ⟨(by first|assumption|exact n1 ‹_› ‹_›|exact n2 ‹_› ‹_›|exact n3 ‹_› ‹_›|exact n4 ‹_› ‹_›),(by first|assumption|exact n1 ‹_› ‹_›|exact n2 ‹_› ‹_›|exact n3 ‹_› ‹_›|exact n4 ‹_› ‹_›),(by first|assumption|exact n1 ‹_› ‹_›|exact n2 ‹_› ‹_›|exact n3 ‹_› ‹_›|exact n4 ‹_› ‹_›)⟩) ?_
            repeat apply w5
            exact ⟨b12, hb, (by repeat (first | exact Fr.sub_nil _ | refine Fr.sub_cons rfl ?_)), AHeap.sub_refl _⟩
        rintro F' H' ⟨b12, hb12, hF, hH⟩
        refine AW_sub ?_ hF hH
        clear hF hH
        repeat first|(apply x1;apply r0;apply r0)|apply w4|apply w6|apply w7|apply w5
        refine aw_cond rfl (fun d => ?_) (fun d => ?_)<;>first|replace d:=not_t d|replace d:=not_f d
        · have hR3 : R.2 = ze := by rw [hR2, if_pos d]
          have hze0 : ¬ R.2 = 0 := by rw [hR3]; exact d
          rw [hR3] at hK
          repeat first|(apply gO;first|(apply x1;apply r0;apply r0)|(apply x2;apply r0;(with_reducible repeat first|assumption|exact q1 ‹_›|apply q3|apply gp|exact n2 ‹_› ‹_›);apply r0)|(apply xst;apply r0;(with_reducible repeat first|assumption|exact q1 ‹_›|apply q3|apply gp|exact n2 ‹_› ‹_›);apply r0)|apply w4)|(apply gW;first|apply w6|apply w7|apply wd)|apply w5|apply we
          exact rt2c (H' := H) rfl rfl (by apply q0) rfl (by rfl) rfl (by exact .pair (wk_agg rfl) (.refl _)) (by repeat first|assumption|(apply su1;assumption)|(apply su3;assumption;assumption)) (hK _ (fun q => absurd q (by rw [← hR3]; exact hze0)))
        · have d' : ze = 0 := d
          obtain ⟨vq1, vq2, -⟩ := hpw d'
          have hR3 : R = ((T1).put (r.parent - 1).toNat zn, 0) := by rw [hR2, if_neg (fun q => q d), vq1]
          have htp := tells_put hM hp1 (.inr vq2)
          rw [hR3] at hK
          repeat first|(apply x1;apply r0;apply r0)|(apply x2;apply r0;(with_reducible repeat first|apply q0|exact q1 ‹_›|apply q3|exact n2 ‹_› ‹_›);apply r0)|(apply x9;apply r0)|apply w6|apply w7|apply wa|apply w5
          refine rput_c (n := zn) hMl2 hzl.2 ?_
          rw [l_has hM.good.wf hM.rel, hp1, vq2]
          repeat first|(apply x1;apply r0;apply r0)|(apply xst;apply r0;(with_reducible repeat first|assumption|apply gp|exact n2 ‹_› ‹_›);apply r0)|apply w4|apply wd|apply w5
          exact rt2c (H' := H) rfl rfl (by apply q0) rfl (by rfl) rfl (by exact .pair (wk_agg rfl) (.refl _)) (by repeat first|assumption|(apply su1;assumption)|(apply su3;assumption;assumption)) (hK ((M).set (r.parent - 1).toNat zn) (fun _ => ⟨htp, (List.length_set ..).trans hMl⟩))
      · rw [ha] at hR ⊢
        have hR2 : R = (T, 28) := by rw [hR]; rfl
        rw [hR2] at hK
        repeat (apply x1;apply r0;apply r0)
        refine s_alloc tk rfl rfl rfl (fun b9 hb9 => ?_); have hb := hb9; (try simp only [put_none_iff, prot_none_iff] at hb); (repeat obtain ⟨_, _, hb⟩ := hb)
        repeat first|(apply gO;first|(apply x1;apply r0;apply r0)|(apply x2;apply r0;(with_reducible repeat first|assumption|apply q0|apply ps|apply q3|apply gp);apply r0)|(apply xst;apply r0;(with_reducible repeat first|assumption|apply q0|apply ps|apply q3|apply gp);apply r0)|apply w4)|(apply gW;first|apply w6|apply w7|(apply w8;apply r0)|apply wd)|apply w5|apply we
        exact rt2c (H' := H) rfl rfl (by apply q0) rfl (by rfl) rfl (by exact .pair (wk_agg rfl) (.refl _)) (by repeat first|exact s0|(apply su1;assumption)) (hK _ (fun q => by simp at q))
      · rw [ha] at hR ⊢
        have hR2 : R = (T, 22) := by rw [hR]; rfl
        rw [hR2] at hK
        repeat (apply x1;apply r0;apply r0)
        refine s_alloc tk rfl rfl rfl (fun b9 hb9 => ?_); have hb := hb9; (try simp only [put_none_iff, prot_none_iff] at hb); (repeat obtain ⟨_, _, hb⟩ := hb)
        repeat first|(apply gO;first|(apply x1;apply r0;apply r0)|(apply x2;apply r0;(with_reducible repeat first|assumption|apply q0|apply ps|apply q3|apply gp);apply r0)|(apply xst;apply r0;(with_reducible repeat first|assumption|apply q0|apply ps|apply q3|apply gp);apply r0)|apply w4)|(apply gW;first|apply w6|apply w7|(apply w8;apply r0)|apply wd)|apply w5|apply we
        exact rt2c (H' := H) rfl rfl (by apply q0) rfl (by rfl) rfl (by exact .pair (wk_agg rfl) (.refl _)) (by repeat first|exact s0|(apply su1;assumption)) (hK _ (fun q => by simp at q))
end Abs
end Go.Proofs.Ytpifnlodilcgkaa
