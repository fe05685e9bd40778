import Derived.Test.YtkopeigfjjbajaaZD
set_option linter.unusedVariables false
namespace Go.Proofs.Ytkopeigfjjbajaa
namespace Abs
set_option linter.unusedSimpArgs false
set_option maxRecDepth 10000
set_option maxHeartbeats 2000000
attribute [local irreducible] AOps AW AP ACalls thenQ inBlk noGoto

/-! ### AttrOnly -/
theorem noMode_small {n : Node} (h : n.small) : (noMode n).small := ⟨h.1, h.2⟩
theorem noOwn_small {n a : Node} (h : n.small) : (noOwn n a).small := ⟨h.1, h.2⟩
theorem noMode_nlen {n : Node} (h : n.nlen) : (noMode n).nlen := ⟨h.1, h.2⟩
theorem at_nlen {T : Tab} (hg : T.good) (i : Int) : (T.at i).nlen := few_nlen (at_few hg i)
theorem attrOnly_c {room : Int} {l : List Raw} (hl : l.length ≤ 9223372036854775807) {c : Cred} {path : ByteArray} {mo ui gi : Int} {H : AHeap} {K : AVal → AHeap → Prop} (hK : K (.b true) H) :
    ACalls Try.prog 3 [.i room, .sl (encRaws l) .no, .agg (encCred c), .s path, .i mo, .i ui, .i gi] H K := by
  refine acalls_body Try.func3 rfl rfl rfl ?_
  repeat first|apply w6|apply w7
  refine s_box rfl rfl rfl (fun b9 hb9 => ?_); have hb := hb9; (try simp only [put_none_iff, prot_none_iff] at hb); (repeat obtain ⟨_, _, hb⟩ := hb)
  repeat first|(apply x1;apply r0;apply r0)|(apply x9;apply r0)|apply w4|apply w6|apply w7|apply w5
  refine awake13_c ?_
  repeat first|(apply gO;first|(apply x1;apply r0;apply r0)|(apply x2;apply r0;(apply q0);apply r0)|(apply x9;apply r0)|apply w4)|(apply gW;first|apply w6|apply w7|(apply w9;apply r0)|apply wa)|apply w5
  refine built13_c hl ?_ (fun T t hB ht => ?_)
  · repeat first|(apply gO;first|(apply x1;apply r0;apply r0)|apply w4|(apply w3;apply r0;apply r0))|(apply gW;first|apply w6|apply w7|(apply w8;apply r0)|apply wd)|apply w5|apply we
    exact rt1 (H' := H) rfl rfl (.refl _) (by repeat first|exact s0|(apply su1;assumption)) hK
  have hg := hB.good
  have hc := hB.small
  have htr := build_tree hB.tree
  have nb7 : b9 ≠ t := by
    have := (put_none_iff.1 ht)
    exact this.2.1
  have ht' : H t = none := (put_none_iff.1 ht).2.2
  repeat first|(apply x1;apply r0;apply r0)|(apply x5;apply r0)|apply w4|apply w6|apply w7|apply w5
  refine aw_cond rfl (fun g1 => ?_) (fun g1 => ?_)<;>first|replace g1:=of_decide_eq_true g1|replace g1:=of_decide_eq_false g1
  · repeat first|(apply x1;apply r0;apply r0)|apply w4|apply w6|apply w7|apply wd|apply w5|apply we
    exact rt1 (H' := H) rfl rfl (.refl _) (by repeat first|exact s0|(apply su1;assumption)) hK
  repeat first|(apply x1;apply r0;apply r0)|(apply x9;apply r0)|apply w6|apply w7|apply wa|apply w5
  refine clone_c hg.wf (by apply q0) (fun u hu => ?_)
  generalize hX : AHeap.put _ t _ = X at hu ⊢
  have xT' : X t = some (.cells (encTab T)) := by rw [← hX]; exact (by apply get_eq;(focus apply ps);rfl)
  have x9' : Rd X b9 (encCred c) := by rw [← hX]; exact (by apply rd_eq;(focus with_reducible repeat first|assumption|apply q0|apply q3);rfl)
  have xss : H.sub X := by rw [← hX]; exact (by repeat first|exact s0|(apply su1;assumption))
  clear hX
  have fu : H u = none := sub_none xss hu
  have ntu : t ≠ u := get_ne xT' hu
  have nut : u ≠ t := Ne.symm ntu
  have n9u : b9 ≠ u := rd_ne x9' hu
  repeat first|(apply x1;apply r0;apply r0)|(apply x9;apply r0)|apply w4|apply w6|apply w7|apply w5
  refine clone_c hg.wf (by with_reducible repeat first|assumption|exact q1 ‹_›|apply q3) (fun w hw => ?_)
  generalize hX2 : AHeap.put _ u _ = X2 at hw ⊢
  have zT2 : X2 t = some (.cells (encTab T)) := by rw [← hX2]; exact (by apply get_eq;(focus with_reducible repeat first|assumption|apply gp);rfl)
  have z92 : Rd X2 b9 (encCred c) := by rw [← hX2]; exact (by apply rd_eq;(focus with_reducible repeat first|assumption|apply q3);rfl)
  have zu2 : X2 u = some (.cells (encTab T)) := by rw [← hX2]; exact (by apply get_eq;(focus apply ps);rfl)
  have zs2 : H.sub X2 := by rw [← hX2]; exact (by repeat first|assumption|(apply su1;assumption))
  clear hX2
  have fw : H w = none := sub_none zs2 hw
  have ntw : t ≠ w := get_ne zT2 hw
  have nwt : w ≠ t := Ne.symm ntw
  have nuw : u ≠ w := get_ne zu2 hw
  have nwu : w ≠ u := Ne.symm nuw
  have n9w : b9 ≠ w := rd_ne z92 hw
  repeat first|(apply x1;apply r0;apply r0)|(apply x2;apply r0;(with_reducible repeat first|assumption|apply q3);apply r0)|(apply x9;apply r0)|apply w4|apply w6|apply w7|apply w5
  refine lstat_c hg hc (by with_reducible repeat first|assumption|exact q1 ‹_›|apply q3) ?_
  have hA := chmod_only hg htr c path mo
  have hB2 := chown_only hg c path ui gi
  obtain ⟨hgA, lA⟩ := chmod_like hg htr c path mo
  obtain ⟨hgB, lB⟩ := chown_like hg c path ui gi true
  generalize T.look c path true = S at hA hB2 ⊢
  repeat (apply x1;apply r0;apply r0)
  refine s_alloc tk rfl rfl rfl (fun b20 hb20 => ?_); have hb := hb20; (try simp only [put_none_iff, prot_none_iff] at hb); (repeat obtain ⟨_, _, hb⟩ := hb)
  repeat first|(apply gO;first|(apply x1;apply r0;apply r0)|(apply x2;apply r0;(with_reducible repeat first|assumption|apply ps|apply q3|exact n1 ‹_› ‹_›);apply r0)|(apply xst;apply r0;(with_reducible repeat first|assumption|apply ps|apply q3|exact n1 ‹_› ‹_›);apply r0)|(apply x9;apply r0)|apply w4)|(apply gW;first|apply w6|apply w7)|apply w5
  refine chmod_c hg htr hc (by with_reducible repeat first|assumption|apply gp|exact n2 ‹_› ‹_›) ?_
  generalize T.chmod c path mo = A at hA hgA lA ⊢
  repeat first|(apply x1;apply r0;apply r0)|(apply x2;apply r0;(with_reducible repeat first|assumption|apply q3|exact n1 ‹_› ‹_›);apply r0)|(apply x9;apply r0)|apply w4|apply w6|apply w7|apply w5
  refine chown_c hg hc (by with_reducible repeat first|assumption|apply gp|exact n2 ‹_› ‹_›) ?_
  generalize T.chown c path ui gi true = B at hB2 hgB lB ⊢
  generalize hY : AHeap.put _ u _ = Y
  have yT : Rd Y t (encTab A.2) := by rw [← hY]; exact (by apply rd_eq;(focus with_reducible repeat first|assumption|apply q0|apply q3);rfl)
  have yU : Rd Y u (encTab B.2) := by rw [← hY]; exact (by apply rd_eq;(focus apply q0);rfl)
  have yW : Rd Y w (encTab T) := by rw [← hY]; exact (by apply rd_eq;(focus with_reducible repeat first|assumption|apply q0|apply q3);rfl)
  have y9' : Rd Y b9 (encCred c) := by rw [← hY]; exact (by apply rd_eq;(focus with_reducible repeat first|assumption|apply q3|exact n1 ‹_› ‹_›);rfl)
  have y20 : Rd Y b20 (encSt S.1) := by rw [← hY]; exact (by apply rd_eq;(focus with_reducible repeat first|apply q0|apply q3|exact n4 ‹_› ‹_›);rfl)
  have ys : H.sub Y := by rw [← hY]; exact (by repeat first|assumption|(apply su1;assumption)|(apply su3;assumption;assumption))
  clear hY
  apply x1; apply r0; apply r0
  apply w4; apply w5; repeat apply w6
  refine aw_cutS (fun F' H' => Fr.sub [(5, .i ui), (6, .i gi), (16, .ptr t 0), (18, .ptr u 0), (19, .ptr w 0), (20, .ptr b20 0), (23, .i B.1), (99, .b false)] F' ∧ Y.sub H') ?_ ?_
  · repeat first|(apply x1;apply r0;apply r0)|apply w7
    refine s_gsplit rfl rfl (fun v1 => ?_) (fun v1 => ?_)<;>first|replace v1:=not_t v1|replace v1:=not_f v1
    · repeat first|(apply x1;apply r0;apply r0)|(apply x5;apply r0)|(apply x9;apply r0)
      refine tsame_c hgA.wf hg.wf (by with_reducible assumption) (by with_reducible assumption) ?_
      rw [hA.err v1, same_self']
      repeat first|(apply x1;apply r0;apply r0)|(apply x5;apply r0)
      refine s_gsplit rfl rfl (fun v2 => ?_) (fun v2 => ?_)<;>first|replace v2:=not_t v2|replace v2:=not_f v2
      · repeat first|(apply x1;apply r0;apply r0)|(apply x5;apply r0)|(apply x9;apply r0)
        refine tsame_c hgB.wf hg.wf (by with_reducible assumption) (by with_reducible assumption) ?_
        rw [hB2.err v2, same_self']
        repeat first|(apply x1;apply r0;apply r0)|(apply x5;apply r0)
        refine s_gsplit rfl rfl (fun v3 => ?_) (fun v3 => ?_)<;>first|replace v3:=not_t v3|replace v3:=not_f v3
        · repeat first|(apply x1;apply r0;apply r0)|(apply x5;apply r0)
          refine s_gsplit rfl rfl (fun v4 => ?_) (fun v4 => ?_)<;>first|replace v4:=of_decide_eq_true v4|replace v4:=of_decide_eq_false v4
          · exact absurd v4 v1
          repeat first|(apply x1;apply r0;apply r0)|(apply x5;apply r0)|apply w4|apply w5
          rw [decide_eq_false v2]
          exact ⟨(by repeat (first | exact Fr.sub_nil _ | refine Fr.sub_cons rfl ?_)), s0⟩
        · repeat first|(apply x1;apply r0;apply r0)|(apply x5;apply r0)|apply w4|(apply w3;apply r0;apply r0)|apply w5
          exact ⟨(by repeat (first | exact Fr.sub_nil _ | refine Fr.sub_cons rfl ?_)), s0⟩
      · repeat first|(apply x1;apply r0;apply r0)|(apply x5;apply r0)|(apply w3;apply r0;apply r0)
        refine s_gsplit rfl rfl (fun v3 => ?_) (fun v3 => ?_)<;>first|replace v3:=not_t v3|replace v3:=not_f v3
        · exact absurd v2 (hB2.none v3)
        · repeat first|(apply x1;apply r0;apply r0)|(apply x5;apply r0)|apply w4|(apply w3;apply r0;apply r0)|apply w5
          exact ⟨(by repeat (first | exact Fr.sub_nil _ | refine Fr.sub_cons rfl ?_)), s0⟩
    · repeat first|(apply x1;apply r0;apply r0)|(apply x5;apply r0)|(apply w3;apply r0;apply r0)
      refine s_gsplit rfl rfl (fun v2 => ?_) (fun v2 => ?_)<;>first|replace v2:=not_t v2|replace v2:=not_f v2
      · repeat first|(apply x1;apply r0;apply r0)|(apply x5;apply r0)|(apply x9;apply r0)
        refine tsame_c hgB.wf hg.wf (by with_reducible assumption) (by with_reducible assumption) ?_
        rw [hB2.err v2, same_self']
        repeat first|(apply x1;apply r0;apply r0)|(apply x5;apply r0)
        refine s_gsplit rfl rfl (fun v3 => ?_) (fun v3 => ?_)<;>first|replace v3:=not_t v3|replace v3:=not_f v3
        · exact absurd v1 (hA.none v3)
        · repeat first|(apply x1;apply r0;apply r0)|(apply x5;apply r0)|apply w4|(apply w3;apply r0;apply r0)|apply w5
          exact ⟨(by repeat (first | exact Fr.sub_nil _ | refine Fr.sub_cons rfl ?_)), s0⟩
      · repeat first|(apply x1;apply r0;apply r0)|(apply x5;apply r0)|(apply w3;apply r0;apply r0)
        refine s_gsplit rfl rfl (fun v3 => ?_) (fun v3 => ?_)<;>first|replace v3:=not_t v3|replace v3:=not_f v3
        · exact absurd v1 (hA.none v3)
        · repeat first|(apply x1;apply r0;apply r0)|(apply x5;apply r0)|apply w4|(apply w3;apply r0;apply r0)|apply w5
          exact ⟨(by repeat (first | exact Fr.sub_nil _ | refine Fr.sub_cons rfl ?_)), s0⟩
  rintro F' H' ⟨hF, hH⟩
  refine AW_sub ?_ hF hH
  clear hF hH
  have h24 := hgA.wf.2.1
  repeat first|(apply gO;first|(apply x1;apply r0;apply r0)|apply w4)|(apply gW;first|apply w6|apply w7|(apply w9;apply r0)|apply wa|apply wb)|apply w5
  refine aw_loop (fun k : Nat => k = 0 ∨ (k : Int) ≤ A.2.room) (fun k => [(5, .i ui), (6, .i gi), (16, .ptr t 0), (18, .ptr u 0), (19, .ptr w 0), (20, .ptr b20 0), (23, .i B.1), (24, .i ((k : Int) + 1))]) (fun _ => Y) (fun k => A.2.room.toNat - k) 0 (.inl rfl) (by repeat (first | exact Fr.sub_nil _ | refine Fr.sub_cons rfl ?_)) (AHeap.sub_refl _) ?_
  intro k hk
  repeat first|(apply x1;apply r0;apply r0)|(apply x9;apply r0)|apply w6|apply w7
  refine room_c (by with_reducible assumption) ?_
  repeat first|(apply x1;apply r0;apply r0)|apply w4|apply w5
  refine aw_cond rfl (fun c1 => ?_) (fun c1 => ?_)<;>first|replace c1:=of_decide_eq_true c1|replace c1:=of_decide_eq_false c1
  case refine_2 =>
    repeat first|(apply gO;first|(apply x1;apply r0;apply r0)|apply w4)|(apply gW;first|apply w6|apply w7|apply wd|apply wc)|apply w5|apply wf|apply wh
    exact rt1 (H' := H) rfl rfl (.refl _) (by repeat assumption) hK
  have c1' : (k : Int) + 1 ≤ A.2.room := by omega
  have hkk : (((k + 1 : Nat) : Int)) = (k : Int) + 1 := by omega
  have sa := (at_few hg ((k : Int) + 1)).small
  have sb := (at_few hgA ((k : Int) + 1)).small
  have sd := (at_few hgB ((k : Int) + 1)).small
  have na := at_nlen hg ((k : Int) + 1)
  repeat first|(apply x1;apply r0;apply r0)|(apply x9;apply r0)|apply w6|apply w7|apply wa|apply wb|apply w5
  refine tget_c hg.wf (by with_reducible assumption) ?_
  repeat (apply x1;apply r0;apply r0)
  refine s_alloc tk rfl rfl rfl (fun b25 hb25 => ?_); have hb := hb25; (try simp only [put_none_iff, prot_none_iff] at hb); (repeat obtain ⟨_, _, hb⟩ := hb)
  repeat first|(apply x1;apply r0;apply r0)|(apply xst;apply r0;(apply ps);apply r0)|(apply x9;apply r0)|apply w4|apply w6|apply w7|apply w5
  refine tget_c hgA.wf (by with_reducible repeat first|assumption|apply q3|exact n1 ‹_› ‹_›) ?_
  repeat (apply x1;apply r0;apply r0)
  refine s_alloc tk rfl rfl rfl (fun b27 hb27 => ?_); have hb := hb27; (try simp only [put_none_iff, prot_none_iff] at hb); (repeat obtain ⟨_, _, hb⟩ := hb)
  repeat first|(apply x1;apply r0;apply r0)|(apply xst;apply r0;(apply ps);apply r0)|(apply x9;apply r0)|apply w4|apply w6|apply w7|apply w5
  refine tget_c hgB.wf (by with_reducible repeat first|assumption|apply q3|exact n1 ‹_› ‹_›) ?_
  repeat (apply x1;apply r0;apply r0)
  refine s_alloc tk rfl rfl rfl (fun b29 hb29 => ?_); have hb := hb29; (try simp only [put_none_iff, prot_none_iff] at hb); (repeat obtain ⟨_, _, hb⟩ := hb)
  repeat first|(apply x1;apply r0;apply r0)|(apply x2;apply r0;(with_reducible repeat first|assumption|apply ps|apply q3|exact n1 ‹_› ‹_›);apply r0)|(apply xst;apply r0;(with_reducible repeat first|assumption|apply ps|apply q3|exact n1 ‹_› ‹_›);apply r0)|apply w4|apply w6|apply w7|apply w5
  refine aw_cond rfl (fun v5 => ?_) (fun v5 => ?_)<;>first|replace v5:=of_decide_eq_true v5|replace v5:=of_decide_eq_false v5
  · repeat first|(apply x1;apply r0;apply r0)|(apply xst;apply r0;(with_reducible repeat first|assumption|apply ps|apply gp);apply r0)|apply w4|apply w6|apply w7|apply w5
    refine aw_cond rfl (fun v6 => ?_) (fun v6 => ?_)<;>first|replace v6:=of_decide_eq_true v6|replace v6:=of_decide_eq_false v6
    · obtain ⟨o1, o2⟩ := hB2.own v6 _ v5
      by_cases hui : 0 ≤ ui
      · rw [if_pos hui] at o1
        repeat first|(apply x1;apply r0;apply r0)|apply w6|apply w7
        refine s_gsplit rfl rfl (fun z1 => ?_) (fun z1 => ?_)<;>first|replace z1:=of_decide_eq_true z1|replace z1:=of_decide_eq_false z1
        case refine_2 => exact absurd hui z1
        repeat first|(apply x1;apply r0;apply r0)|(apply x2;apply r0;(apply q0);apply r0)|(apply x5;apply r0)
        refine s_gsplit rfl rfl (fun z2 => ?_) (fun z2 => ?_)<;>first|replace z2:=not_t z2|replace z2:=not_f z2
        case refine_1 => exact absurd o1 z2
        repeat first|(apply x1;apply r0;apply r0)|(apply x5;apply r0)
        by_cases hgi : 0 ≤ gi
        · rw [if_pos hgi] at o2
          refine s_gsplit rfl rfl (fun z3 => ?_) (fun z3 => ?_)<;>first|replace z3:=of_decide_eq_true z3|replace z3:=of_decide_eq_false z3
          case refine_2 => exact absurd hgi z3
          repeat first|(apply x1;apply r0;apply r0)|(apply x2;apply r0;(apply q0);apply r0)|(apply x5;apply r0)
          refine s_gsplit rfl rfl (fun z4 => ?_) (fun z4 => ?_)<;>first|replace z4:=not_t z4|replace z4:=not_f z4
          case refine_1 => exact absurd o2 z4
          repeat first|(apply x1;apply r0;apply r0)|(apply x5;apply r0)
          refine s_gsplit rfl rfl (fun z5 => ?_) (fun z5 => ?_)<;>first|replace z5:=of_decide_eq_true z5|replace z5:=of_decide_eq_false z5
          case refine_1 => exact absurd z5 (by omega)
          repeat first|(apply x1;apply r0;apply r0)|(apply x5;apply r0)|(apply w3;apply r0;apply r0)
          refine s_gsplit rfl rfl (fun z6 => ?_) (fun z6 => ?_)<;>first|replace z6:=of_decide_eq_true z6|replace z6:=of_decide_eq_false z6
          case refine_1 => exact absurd z6 (by omega)
          repeat first|(apply gO;first|(apply x1;apply r0;apply r0)|(apply x2;apply r0;(with_reducible repeat first|assumption|apply q0|apply ps|apply q3);apply r0)|(apply xst;apply r0;(with_reducible repeat first|assumption|apply q0|apply ps|apply q3);apply r0)|(apply x5;apply r0)|apply w4|(apply w3;apply r0;apply r0))|(apply gW;first|apply w6|apply w7|(apply w9;apply r0)|apply wa)|apply w5
          refine aw_prot [b25, b27, b29] (allc (by with_reducible repeat first|assumption|apply q0|apply q3) (allc (by with_reducible repeat first|assumption|apply q0|apply q3) (allc (by apply q0) (allc0 _)))) ?_
          refine aw_plan mixed (.take 0 (.take 2 (.one 1 (.one 3 (.one 4 (.take 5 (.take 6 (.take 7 (.take 9 (.one 8 (.one 10 (.one 11 (.take 12 (.take 13 .done)))))))))))))) (by kernel_rfl) ?_
          repeat first|(apply x9;apply r0)|(apply y4;apply r0)|(apply y2;apply r0;apply r0;(with_reducible repeat first|assumption|apply q0|apply pg|apply q3|exact mm0|apply mm1);apply r0)
          refine model13_c (n := noMode (T.at ((k : Int) + 1))) (noMode_small sa) ?_
          repeat first|(apply x9;apply r0)|apply w4|(apply y4;apply r0)
          refine model13_c (n := noMode (A.2.at ((k : Int) + 1))) (noMode_small sb) ?_
          repeat first|(apply x9;apply r0)|apply w4|(apply y4;apply r0)
          refine rsame_c (noMode_nlen na) ?_
          rw [hA.one, same_refl]
          repeat first|(apply x5;apply r0)|(apply x9;apply r0)|apply w4|(apply y1;apply r0;apply r0)|(apply y4;apply r0)|(apply y2;apply r0;apply r0;(with_reducible repeat first|assumption|apply q0|apply pg|apply q3|exact mm0|apply mm1);apply r0)
          refine model13_c (n := noMode (T.at ((k : Int) + 1))) (noMode_small sa) ?_
          repeat first|(apply x5;apply r0)|(apply x9;apply r0)|apply w4|(apply y4;apply r0)
          refine model13_c (n := noOwn (B.2.at ((k : Int) + 1)) (T.at ((k : Int) + 1))) (noOwn_small sd) ?_
          repeat first|(apply x5;apply r0)|(apply x9;apply r0)|apply w4|(apply y4;apply r0)
          refine rsame_c (noMode_nlen na) ?_
          rw [hB2.one, same_refl]
          repeat first|apply w4|(apply y1;apply r0;apply r0)|apply y0|(apply take1_ok;apply r0)
          refine prot_done ?_
          repeat first|(apply gO;first|(apply x1;apply r0;apply r0)|apply w4|(apply x6;apply r0;omega))|(apply gW;first|apply w7|(apply w9;apply r0)|apply wa)|apply w5|apply wg
          exact ⟨k + 1, by omega, by omega, (by repeat (first | exact Fr.sub_nil _ | refine Fr.sub_cons rfl ?_)), (by repeat first|exact s0|(apply su1;assumption))⟩
        · rw [if_neg hgi] at o2
          refine s_gsplit rfl rfl (fun z3 => ?_) (fun z3 => ?_)<;>first|replace z3:=of_decide_eq_true z3|replace z3:=of_decide_eq_false z3
          case refine_1 => exact absurd z3 hgi
          repeat first|(apply x1;apply r0;apply r0)|(apply x5;apply r0)|(apply w3;apply r0;apply r0)
          refine s_gsplit rfl rfl (fun z5 => ?_) (fun z5 => ?_)<;>first|replace z5:=of_decide_eq_true z5|replace z5:=of_decide_eq_false z5
          case refine_1 => exact absurd z5 (by omega)
          repeat first|(apply x1;apply r0;apply r0)|(apply x5;apply r0)|(apply w3;apply r0;apply r0)
          refine s_gsplit rfl rfl (fun z6 => ?_) (fun z6 => ?_)<;>first|replace z6:=of_decide_eq_true z6|replace z6:=of_decide_eq_false z6
          case refine_2 => exact absurd (by omega) z6
          repeat first|(apply x1;apply r0;apply r0)|(apply x2;apply r0;(with_reducible repeat first|assumption|apply q0|apply q3);apply r0)|(apply x5;apply r0)|apply w4|apply w5
          refine aw_cond rfl (fun z7 => ?_) (fun z7 => ?_)<;>first|replace z7:=not_t z7|replace z7:=not_f z7
          · exact absurd o2 z7
          repeat first|(apply gO;first|(apply x1;apply r0;apply r0)|(apply x2;apply r0;(with_reducible repeat first|assumption|apply q0|apply ps|apply q3);apply r0)|(apply xst;apply r0;(with_reducible repeat first|assumption|apply q0|apply ps|apply q3);apply r0)|apply w4)|(apply gW;first|apply w6|apply w7|apply wa)|apply w5
          refine aw_prot [b25, b27, b29] (allc (by with_reducible repeat first|assumption|apply q0|apply q3) (allc (by with_reducible repeat first|assumption|apply q0|apply q3) (allc (by apply q0) (allc0 _)))) ?_
          refine aw_plan mixed (.take 0 (.take 2 (.one 1 (.one 3 (.one 4 (.take 5 (.take 6 (.take 7 (.take 9 (.one 8 (.one 10 (.one 11 (.take 12 (.take 13 .done)))))))))))))) (by kernel_rfl) ?_
          repeat first|(apply x9;apply r0)|(apply y4;apply r0)|(apply y2;apply r0;apply r0;(with_reducible repeat first|assumption|apply q0|apply pg|apply q3|exact mm0|apply mm1);apply r0)
          refine model13_c (n := noMode (T.at ((k : Int) + 1))) (noMode_small sa) ?_
          repeat first|(apply x9;apply r0)|apply w4|(apply y4;apply r0)
          refine model13_c (n := noMode (A.2.at ((k : Int) + 1))) (noMode_small sb) ?_
          repeat first|(apply x9;apply r0)|apply w4|(apply y4;apply r0)
          refine rsame_c (noMode_nlen na) ?_
          rw [hA.one, same_refl]
          repeat first|(apply x5;apply r0)|(apply x9;apply r0)|apply w4|(apply y1;apply r0;apply r0)|(apply y4;apply r0)|(apply y2;apply r0;apply r0;(with_reducible repeat first|assumption|apply q0|apply pg|apply q3|exact mm0|apply mm1);apply r0)
          refine model13_c (n := noMode (T.at ((k : Int) + 1))) (noMode_small sa) ?_
          repeat first|(apply x5;apply r0)|(apply x9;apply r0)|apply w4|(apply y4;apply r0)
          refine model13_c (n := noOwn (B.2.at ((k : Int) + 1)) (T.at ((k : Int) + 1))) (noOwn_small sd) ?_
          repeat first|(apply x5;apply r0)|(apply x9;apply r0)|apply w4|(apply y4;apply r0)
          refine rsame_c (noMode_nlen na) ?_
          rw [hB2.one, same_refl]
          repeat first|apply w4|(apply y1;apply r0;apply r0)|apply y0|(apply take1_ok;apply r0)
          refine prot_done ?_
          repeat first|(apply gO;first|(apply x1;apply r0;apply r0)|apply w4|(apply x6;apply r0;omega))|(apply gW;first|apply w7|(apply w9;apply r0)|apply wa)|apply w5|apply wg
          exact ⟨k + 1, by omega, by omega, (by repeat (first | exact Fr.sub_nil _ | refine Fr.sub_cons rfl ?_)), (by repeat first|exact s0|(apply su1;assumption))⟩
      · rw [if_neg hui] at o1
        repeat first|(apply x1;apply r0;apply r0)|apply w6|apply w7
        refine s_gsplit rfl rfl (fun z1 => ?_) (fun z1 => ?_)<;>first|replace z1:=of_decide_eq_true z1|replace z1:=of_decide_eq_false z1
        case refine_1 => exact absurd z1 hui
        repeat first|(apply x1;apply r0;apply r0)|(apply x5;apply r0)|(apply w3;apply r0;apply r0)
        by_cases hgi : 0 ≤ gi
        · rw [if_pos hgi] at o2
          refine s_gsplit rfl rfl (fun z3 => ?_) (fun z3 => ?_)<;>first|replace z3:=of_decide_eq_true z3|replace z3:=of_decide_eq_false z3
          case refine_2 => exact absurd hgi z3
          repeat first|(apply x1;apply r0;apply r0)|(apply x2;apply r0;(apply q0);apply r0)|(apply x5;apply r0)
          refine s_gsplit rfl rfl (fun z4 => ?_) (fun z4 => ?_)<;>first|replace z4:=not_t z4|replace z4:=not_f z4
          case refine_1 => exact absurd o2 z4
          repeat first|(apply x1;apply r0;apply r0)|(apply x5;apply r0)
          refine s_gsplit rfl rfl (fun z5 => ?_) (fun z5 => ?_)<;>first|replace z5:=of_decide_eq_true z5|replace z5:=of_decide_eq_false z5
          case refine_2 => exact absurd (by omega) z5
          repeat first|(apply x1;apply r0;apply r0)|(apply x2;apply r0;(with_reducible repeat first|assumption|apply q0|apply q3);apply r0)|(apply x5;apply r0)
          refine s_gsplit rfl rfl (fun z8 => ?_) (fun z8 => ?_)<;>first|replace z8:=not_t z8|replace z8:=not_f z8
          case refine_1 => exact absurd o1 z8
          repeat first|(apply x1;apply r0;apply r0)|(apply x5;apply r0)
          refine s_gsplit rfl rfl (fun z6 => ?_) (fun z6 => ?_)<;>first|replace z6:=of_decide_eq_true z6|replace z6:=of_decide_eq_false z6
          case refine_1 => exact absurd z6 (by omega)
          repeat first|(apply gO;first|(apply x1;apply r0;apply r0)|(apply x2;apply r0;(with_reducible repeat first|assumption|apply q0|apply ps|apply q3);apply r0)|(apply xst;apply r0;(with_reducible repeat first|assumption|apply q0|apply ps|apply q3);apply r0)|(apply x5;apply r0)|apply w4|(apply w3;apply r0;apply r0))|(apply gW;first|apply w6|apply w7|(apply w9;apply r0)|apply wa)|apply w5
          refine aw_prot [b25, b27, b29] (allc (by with_reducible repeat first|assumption|apply q0|apply q3) (allc (by with_reducible repeat first|assumption|apply q0|apply q3) (allc (by apply q0) (allc0 _)))) ?_
          refine aw_plan mixed (.take 0 (.take 2 (.one 1 (.one 3 (.one 4 (.take 5 (.take 6 (.take 7 (.take 9 (.one 8 (.one 10 (.one 11 (.take 12 (.take 13 .done)))))))))))))) (by kernel_rfl) ?_
          repeat first|(apply x9;apply r0)|(apply y4;apply r0)|(apply y2;apply r0;apply r0;(with_reducible repeat first|assumption|apply q0|apply pg|apply q3|exact mm0|apply mm1);apply r0)
          refine model13_c (n := noMode (T.at ((k : Int) + 1))) (noMode_small sa) ?_
          repeat first|(apply x9;apply r0)|apply w4|(apply y4;apply r0)
          refine model13_c (n := noMode (A.2.at ((k : Int) + 1))) (noMode_small sb) ?_
          repeat first|(apply x9;apply r0)|apply w4|(apply y4;apply r0)
          refine rsame_c (noMode_nlen na) ?_
          rw [hA.one, same_refl]
          repeat first|(apply x5;apply r0)|(apply x9;apply r0)|apply w4|(apply y1;apply r0;apply r0)|(apply y4;apply r0)|(apply y2;apply r0;apply r0;(with_reducible repeat first|assumption|apply q0|apply pg|apply q3|exact mm0|apply mm1);apply r0)
          refine model13_c (n := noMode (T.at ((k : Int) + 1))) (noMode_small sa) ?_
          repeat first|(apply x5;apply r0)|(apply x9;apply r0)|apply w4|(apply y4;apply r0)
          refine model13_c (n := noOwn (B.2.at ((k : Int) + 1)) (T.at ((k : Int) + 1))) (noOwn_small sd) ?_
          repeat first|(apply x5;apply r0)|(apply x9;apply r0)|apply w4|(apply y4;apply r0)
          refine rsame_c (noMode_nlen na) ?_
          rw [hB2.one, same_refl]
          repeat first|apply w4|(apply y1;apply r0;apply r0)|apply y0|(apply take1_ok;apply r0)
          refine prot_done ?_
          repeat first|(apply gO;first|(apply x1;apply r0;apply r0)|apply w4|(apply x6;apply r0;omega))|(apply gW;first|apply w7|(apply w9;apply r0)|apply wa)|apply w5|apply wg
          exact ⟨k + 1, by omega, by omega, (by repeat (first | exact Fr.sub_nil _ | refine Fr.sub_cons rfl ?_)), (by repeat first|exact s0|(apply su1;assumption))⟩
        · rw [if_neg hgi] at o2
          refine s_gsplit rfl rfl (fun z3 => ?_) (fun z3 => ?_)<;>first|replace z3:=of_decide_eq_true z3|replace z3:=of_decide_eq_false z3
          case refine_1 => exact absurd z3 hgi
          repeat first|(apply x1;apply r0;apply r0)|(apply x5;apply r0)|(apply w3;apply r0;apply r0)
          refine s_gsplit rfl rfl (fun z5 => ?_) (fun z5 => ?_)<;>first|replace z5:=of_decide_eq_true z5|replace z5:=of_decide_eq_false z5
          case refine_2 => exact absurd (by omega) z5
          repeat first|(apply x1;apply r0;apply r0)|(apply x2;apply r0;(with_reducible repeat first|assumption|apply q0|apply q3);apply r0)|(apply x5;apply r0)
          refine s_gsplit rfl rfl (fun z8 => ?_) (fun z8 => ?_)<;>first|replace z8:=not_t z8|replace z8:=not_f z8
          case refine_1 => exact absurd o1 z8
          repeat first|(apply x1;apply r0;apply r0)|(apply x5;apply r0)
          refine s_gsplit rfl rfl (fun z6 => ?_) (fun z6 => ?_)<;>first|replace z6:=of_decide_eq_true z6|replace z6:=of_decide_eq_false z6
          case refine_2 => exact absurd (by omega) z6
          repeat first|(apply x1;apply r0;apply r0)|(apply x2;apply r0;(with_reducible repeat first|assumption|apply q0|apply q3);apply r0)|(apply x5;apply r0)|apply w4|apply w5
          refine aw_cond rfl (fun z7 => ?_) (fun z7 => ?_)<;>first|replace z7:=not_t z7|replace z7:=not_f z7
          · exact absurd o2 z7
          repeat first|(apply gO;first|(apply x1;apply r0;apply r0)|(apply x2;apply r0;(with_reducible repeat first|assumption|apply q0|apply ps|apply q3);apply r0)|(apply xst;apply r0;(with_reducible repeat first|assumption|apply q0|apply ps|apply q3);apply r0)|apply w4)|(apply gW;first|apply w6|apply w7|apply wa)|apply w5
          refine aw_prot [b25, b27, b29] (allc (by with_reducible repeat first|assumption|apply q0|apply q3) (allc (by with_reducible repeat first|assumption|apply q0|apply q3) (allc (by apply q0) (allc0 _)))) ?_
          refine aw_plan mixed (.take 0 (.take 2 (.one 1 (.one 3 (.one 4 (.take 5 (.take 6 (.take 7 (.take 9 (.one 8 (.one 10 (.one 11 (.take 12 (.take 13 .done)))))))))))))) (by kernel_rfl) ?_
          repeat first|(apply x9;apply r0)|(apply y4;apply r0)|(apply y2;apply r0;apply r0;(with_reducible repeat first|assumption|apply q0|apply pg|apply q3|exact mm0|apply mm1);apply r0)
          refine model13_c (n := noMode (T.at ((k : Int) + 1))) (noMode_small sa) ?_
          repeat first|(apply x9;apply r0)|apply w4|(apply y4;apply r0)
          refine model13_c (n := noMode (A.2.at ((k : Int) + 1))) (noMode_small sb) ?_
          repeat first|(apply x9;apply r0)|apply w4|(apply y4;apply r0)
          refine rsame_c (noMode_nlen na) ?_
          rw [hA.one, same_refl]
          repeat first|(apply x5;apply r0)|(apply x9;apply r0)|apply w4|(apply y1;apply r0;apply r0)|(apply y4;apply r0)|(apply y2;apply r0;apply r0;(with_reducible repeat first|assumption|apply q0|apply pg|apply q3|exact mm0|apply mm1);apply r0)
          refine model13_c (n := noMode (T.at ((k : Int) + 1))) (noMode_small sa) ?_
          repeat first|(apply x5;apply r0)|(apply x9;apply r0)|apply w4|(apply y4;apply r0)
          refine model13_c (n := noOwn (B.2.at ((k : Int) + 1)) (T.at ((k : Int) + 1))) (noOwn_small sd) ?_
          repeat first|(apply x5;apply r0)|(apply x9;apply r0)|apply w4|(apply y4;apply r0)
          refine rsame_c (noMode_nlen na) ?_
          rw [hB2.one, same_refl]
          repeat first|apply w4|(apply y1;apply r0;apply r0)|apply y0|(apply take1_ok;apply r0)
          refine prot_done ?_
          repeat first|(apply gO;first|(apply x1;apply r0;apply r0)|apply w4|(apply x6;apply r0;omega))|(apply gW;first|apply w7|(apply w9;apply r0)|apply wa)|apply w5|apply wg
          exact ⟨k + 1, by omega, by omega, (by repeat (first | exact Fr.sub_nil _ | refine Fr.sub_cons rfl ?_)), (by repeat first|exact s0|(apply su1;assumption))⟩
    · repeat first|(apply gO;first|(apply x1;apply r0;apply r0)|(apply x2;apply r0;(with_reducible repeat first|assumption|apply q0|apply ps|apply q3);apply r0)|(apply xst;apply r0;(with_reducible repeat first|assumption|apply q0|apply ps|apply q3);apply r0)|apply w4)|(apply gW;first|apply w6|apply w7|apply wa)|apply w5
      refine aw_prot [b25, b27, b29] (allc (by with_reducible repeat first|assumption|apply q0|apply q3) (allc (by with_reducible repeat first|assumption|apply q0|apply q3) (allc (by apply q0) (allc0 _)))) ?_
      refine aw_plan mixed (.take 0 (.take 2 (.one 1 (.one 3 (.one 4 (.take 5 (.take 6 (.take 7 (.take 9 (.one 8 (.one 10 (.one 11 (.take 12 (.take 13 .done)))))))))))))) (by kernel_rfl) ?_
      repeat first|(apply x9;apply r0)|(apply y4;apply r0)|(apply y2;apply r0;apply r0;(with_reducible repeat first|assumption|apply q0|apply pg|apply q3|exact mm0|apply mm1);apply r0)
      refine model13_c (n := noMode (T.at ((k : Int) + 1))) (noMode_small sa) ?_
      repeat first|(apply x9;apply r0)|apply w4|(apply y4;apply r0)
      refine model13_c (n := noMode (A.2.at ((k : Int) + 1))) (noMode_small sb) ?_
      repeat first|(apply x9;apply r0)|apply w4|(apply y4;apply r0)
      refine rsame_c (noMode_nlen na) ?_
      rw [hA.one, same_refl]
      repeat first|(apply x5;apply r0)|(apply x9;apply r0)|apply w4|(apply y1;apply r0;apply r0)|(apply y4;apply r0)|(apply y2;apply r0;apply r0;(with_reducible repeat first|assumption|apply q0|apply pg|apply q3|exact mm0|apply mm1);apply r0)
      refine model13_c (n := noMode (T.at ((k : Int) + 1))) (noMode_small sa) ?_
      repeat first|(apply x5;apply r0)|(apply x9;apply r0)|apply w4|(apply y4;apply r0)
      refine model13_c (n := noOwn (B.2.at ((k : Int) + 1)) (T.at ((k : Int) + 1))) (noOwn_small sd) ?_
      repeat first|(apply x5;apply r0)|(apply x9;apply r0)|apply w4|(apply y4;apply r0)
      refine rsame_c (noMode_nlen na) ?_
      rw [hB2.one, same_refl]
      repeat first|apply w4|(apply y1;apply r0;apply r0)|apply y0|(apply take1_ok;apply r0)
      refine prot_done ?_
      repeat first|(apply gO;first|(apply x1;apply r0;apply r0)|apply w4|(apply x6;apply r0;omega))|(apply gW;first|apply w7|(apply w9;apply r0)|apply wa)|apply w5|apply wg
      exact ⟨k + 1, by omega, by omega, (by repeat (first | exact Fr.sub_nil _ | refine Fr.sub_cons rfl ?_)), (by repeat first|exact s0|(apply su1;assumption))⟩
  · repeat first|apply w6|apply wa|apply w5
    refine aw_prot [b25, b27, b29] (allc (by with_reducible repeat first|assumption|apply q0|apply q3) (allc (by with_reducible repeat first|assumption|apply q0|apply q3) (allc (by apply q0) (allc0 _)))) ?_
    refine aw_plan mixed (.take 0 (.take 2 (.one 1 (.one 3 (.one 4 (.take 5 (.take 6 (.take 7 (.take 9 (.one 8 (.one 10 (.one 11 (.take 12 (.take 13 .done)))))))))))))) (by kernel_rfl) ?_
    repeat first|(apply x9;apply r0)|(apply y4;apply r0)|(apply y2;apply r0;apply r0;(with_reducible repeat first|assumption|apply q0|apply pg|apply q3|exact mm0|apply mm1);apply r0)
    refine model13_c sa ?_
    repeat first|(apply x9;apply r0)|apply w4|(apply y4;apply r0)
    refine model13_c sb ?_
    repeat first|(apply x9;apply r0)|apply w4|(apply y4;apply r0)
    refine rsame_c na ?_
    rw [hA.others _ v5, same_refl]
    repeat first|(apply x5;apply r0)|(apply x9;apply r0)|apply w4|(apply y1;apply r0;apply r0)|(apply y4;apply r0)|(apply y2;apply r0;apply r0;(with_reducible repeat first|assumption|apply q0|apply pg|apply q3|exact mm0|apply mm1);apply r0)
    refine model13_c sa ?_
    repeat first|(apply x5;apply r0)|(apply x9;apply r0)|apply w4|(apply y4;apply r0)
    refine model13_c sd ?_
    repeat first|(apply x5;apply r0)|(apply x9;apply r0)|apply w4|(apply y4;apply r0)
    refine rsame_c na ?_
    rw [hB2.others _ v5, same_refl]
    repeat first|apply w4|(apply y1;apply r0;apply r0)|apply y0|(apply take1_ok;apply r0)
    refine prot_done ?_
    repeat first|(apply gO;first|(apply x1;apply r0;apply r0)|apply w4|(apply x6;apply r0;omega))|(apply gW;first|apply w7|(apply w9;apply r0)|apply wa)|apply w5|apply wg
    exact ⟨k + 1, by omega, by omega, (by repeat (first | exact Fr.sub_nil _ | refine Fr.sub_cons rfl ?_)), (by repeat first|exact s0|(apply su1;assumption))⟩
end Abs
end Go.Proofs.Ytkopeigfjjbajaa
