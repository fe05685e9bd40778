import Derived.Test.YtpmnfbgnlanpoaaGF
set_option linter.unusedVariables false
namespace Go.Proofs.Ytpmnfbgnlanpoaa
namespace Abs
set_option linter.unusedSimpArgs false
set_option maxRecDepth 10000
set_option maxHeartbeats 2000000
attribute [local irreducible] AOps AW AP ACalls thenQ inBlk noGoto

/-! ### prune.Rename, and no table -/
theorem over_c {T : Tab} {c : Cred} {p q : Found} {H : AHeap} {K : AVal → AHeap → Prop} (hK : K (.i (T.overE c p q)) H) : ACalls Try.prog 58 [.agg (encCred c), .agg (encP (T.placeOf p)), .agg (encP (T.placeOf q))] H K := by
  refine acalls_body Try.func58 rfl rfl rfl ?_
  unfold Tab.overE at hK
  have hle := ents_len (T.at q.node).ents
  repeat first|apply w6|apply w7
  refine s_box rfl rfl rfl (fun b3 hb3 => ?_); have hb := hb3; (try simp only [put_none_iff, prot_none_iff] at hb); (repeat obtain ⟨_, _, hb⟩ := hb)
  skip
  refine s_box rfl rfl rfl (fun b4 hb4 => ?_); have hb := hb4; (try simp only [put_none_iff, prot_none_iff] at hb); (repeat obtain ⟨_, _, hb⟩ := hb)
  skip
  refine s_box rfl rfl rfl (fun b5 hb5 => ?_); have hb := hb5; (try simp only [put_none_iff, prot_none_iff] at hb); (repeat obtain ⟨_, _, hb⟩ := hb)
  repeat first|(apply x1;apply r0;apply r0)|apply w4|apply w6|apply w5
  refine aw_prot [b4, b5] (allc (by with_reducible repeat first|assumption|apply q0|apply q3) (allc (by apply q0) (allc0 _))) ?_
  refine aw_plan mixed (.take 0 (.take 1 (.take 2 (.take 3 (.take 4 (.take 5 (.take 6 (.take 7 (.take 8 (.take 9 .done)))))))))) (by kernel_rfl) ?_
  repeat first|(apply y1;apply r0;apply r0)|apply y0|(apply y2;apply r0;apply r0;(with_reducible repeat first|assumption|apply q0|apply pg|apply q3|exact mm0|apply mm1);apply r0)
  refine prot_done ?_
  repeat first|(apply x2;apply r0;(with_reducible repeat first|assumption|apply q0|apply q3);apply r0)|(apply x9;apply r0)|apply w6|apply w7|apply wb|apply w5
  refine psticky_c ?_
  rw [show c.sticky (T.placeOf q).d.mode (T.placeOf q).d.uid (T.placeOf q).n.uid = T.mayTake c q from rfl]
  cases hm : T.mayTake c q with
  | false =>
    rw [hm, if_pos rfl] at hK
    repeat first|(apply gO;first|(apply x1;apply r0;apply r0)|apply w4)|(apply gW;first|apply w6|apply w7|(apply w8;apply r0)|apply wd)|apply w5|apply we|apply wj
    exact rt1 (H' := H) rfl rfl (.refl _) (by repeat first|exact s0|(apply su1;assumption)) hK
  | true =>
    rw [hm, if_neg (by decide)] at hK
    by_cases k1 : (T.at p.node).kind = 2
    · by_cases k2 : (T.at q.node).kind = 2
      · rw [if_neg (fun z => z.2 k2), if_neg (fun z => z.2 k1)] at hK
        repeat first|(apply x1;apply r0;apply r0)|apply w4|apply w6|apply w7|(apply w9;apply r0)|apply w5
        refine s_gsplit rfl rfl (fun e1 => ?_) (fun e1 => ?_)<;>first|replace e1:=of_decide_eq_true e1|replace e1:=of_decide_eq_false e1
        case refine_2 => exact absurd k1 e1
        repeat first|(apply x1;apply r0;apply r0)|(apply x5;apply r0)|apply w4|apply w5
        refine aw_cond rfl (fun e2 => ?_) (fun e2 => ?_)<;>first|replace e2:=not_t e2|replace e2:=not_f e2
        · exact absurd k2 e2
        repeat first|(apply x1;apply r0;apply r0)|apply w6|apply w7
        refine s_gsplit rfl rfl (fun e3 => ?_) (fun e3 => ?_)<;>first|replace e3:=of_decide_eq_true e3|replace e3:=of_decide_eq_false e3
        case refine_2 => exact absurd k2 e3
        repeat first|(apply x1;apply r0;apply r0)|(apply x5;apply r0)|apply w4|apply w5
        refine aw_cond rfl (fun e4 => ?_) (fun e4 => ?_)<;>first|replace e4:=not_t e4|replace e4:=not_f e4
        · exact absurd k1 e4
        repeat first|(apply x1;apply r0;apply r0)|(apply x2;apply r0;(apply q0);apply r0)|apply w4|apply w6|apply w7|apply w5
        refine aw_cond rfl (fun e5 => ?_) (fun e5 => ?_)<;>first|replace e5:=of_decide_eq_true e5|replace e5:=of_decide_eq_false e5
        · have e5' : 0 < (((T.at q.node).ents.map encEnt).length : Int) := e5
          rw [hle] at e5'
          rw [if_pos e5'] at hK
          repeat first|(apply gO;first|(apply x1;apply r0;apply r0)|apply w4)|(apply gW;first|apply w6|apply w7|apply wd)|apply w5|apply we|apply wj
          exact rt1 (H' := H) rfl rfl (.refl _) (by repeat first|exact s0|(apply su1;assumption)) hK
        have e5' : ¬ 0 < (((T.at q.node).ents.map encEnt).length : Int) := e5
        rw [hle] at e5'
        rw [if_neg e5'] at hK
        repeat first|(apply gO;first|(apply x1;apply r0;apply r0)|apply w4)|(apply gW;first|apply w6|apply w7|apply wa|apply wd)|apply w5|apply wg
        exact rt1 (H' := H) rfl rfl (.refl _) (by repeat first|exact s0|(apply su1;assumption)) hK
      · rw [if_pos ⟨k1, k2⟩] at hK
        repeat first|(apply x1;apply r0;apply r0)|apply w4|apply w6|apply w7|(apply w9;apply r0)|apply w5
        refine s_gsplit rfl rfl (fun e1 => ?_) (fun e1 => ?_)<;>first|replace e1:=of_decide_eq_true e1|replace e1:=of_decide_eq_false e1
        case refine_2 => exact absurd k1 e1
        repeat first|(apply x1;apply r0;apply r0)|(apply x5;apply r0)|apply w4|apply w5
        refine aw_cond rfl (fun e2 => ?_) (fun e2 => ?_)<;>first|replace e2:=not_t e2|replace e2:=not_f e2
        case refine_2 => exact absurd e2 k2
        repeat first|(apply gO;first|(apply x1;apply r0;apply r0)|apply w4)|(apply gW;first|apply w6|apply w7|apply wd)|apply w5|apply we|apply wj
        exact rt1 (H' := H) rfl rfl (.refl _) (by repeat first|exact s0|(apply su1;assumption)) hK
    · rw [if_neg (fun z => k1 z.1)] at hK
      repeat first|(apply x1;apply r0;apply r0)|apply w4|apply w6|apply w7|(apply w9;apply r0)|apply w5
      refine s_gsplit rfl rfl (fun e1 => ?_) (fun e1 => ?_)<;>first|replace e1:=of_decide_eq_true e1|replace e1:=of_decide_eq_false e1
      · exact absurd e1 k1
      repeat first|(apply x1;apply r0;apply r0)|apply w4|(apply w3;apply r0;apply r0)|apply w6|apply w7|(apply w9;apply r0)|apply w5
      by_cases k2 : (T.at q.node).kind = 2
      · rw [if_pos ⟨k2, k1⟩] at hK
        refine s_gsplit rfl rfl (fun e3 => ?_) (fun e3 => ?_)<;>first|replace e3:=of_decide_eq_true e3|replace e3:=of_decide_eq_false e3
        case refine_2 => exact absurd k2 e3
        repeat first|(apply x1;apply r0;apply r0)|(apply x5;apply r0)|apply w4|apply w5
        refine aw_cond rfl (fun e4 => ?_) (fun e4 => ?_)<;>first|replace e4:=not_t e4|replace e4:=not_f e4
        case refine_2 => exact absurd e4 k1
        repeat first|(apply gO;first|(apply x1;apply r0;apply r0)|apply w4)|(apply gW;first|apply w6|apply w7|apply wd)|apply w5|apply we|apply wj
        exact rt1 (H' := H) rfl rfl (.refl _) (by repeat first|exact s0|(apply su1;assumption)) hK
      · rw [if_neg (fun z => k2 z.1)] at hK
        refine s_gsplit rfl rfl (fun e3 => ?_) (fun e3 => ?_)<;>first|replace e3:=of_decide_eq_true e3|replace e3:=of_decide_eq_false e3
        · exact absurd e3 k2
        repeat first|(apply gO;first|(apply x1;apply r0;apply r0)|(apply x2;apply r0;(apply q0);apply r0)|apply w4|(apply w3;apply r0;apply r0))|(apply gW;first|apply w6|apply w7|(apply w9;apply r0))|apply w5
        refine aw_cond rfl (fun e5 => ?_) (fun e5 => ?_)<;>first|replace e5:=of_decide_eq_true e5|replace e5:=of_decide_eq_false e5
        · have e5' : 0 < (((T.at q.node).ents.map encEnt).length : Int) := e5
          rw [hle] at e5'
          rw [if_pos e5'] at hK
          repeat first|(apply gO;first|(apply x1;apply r0;apply r0)|apply w4)|(apply gW;first|apply w6|apply w7|apply wd)|apply w5|apply we|apply wj
          exact rt1 (H' := H) rfl rfl (.refl _) (by repeat first|exact s0|(apply su1;assumption)) hK
        have e5' : ¬ 0 < (((T.at q.node).ents.map encEnt).length : Int) := e5
        rw [hle] at e5'
        rw [if_neg e5'] at hK
        repeat first|(apply gO;first|(apply x1;apply r0;apply r0)|apply w4)|(apply gW;first|apply w6|apply w7|apply wa|apply wd)|apply w5|apply wg
        exact rt1 (H' := H) rfl rfl (.refl _) (by repeat first|exact s0|(apply su1;assumption)) hK
theorem rename_c {t : Nat} {T : Tab} (hg : T.good) {c : Cred} (hc : c.small) {fr tg : ByteArray} {op : List Int} (hop : op.length ≤ 9223372036854775807) {o : Own} {H : AHeap} (hT : H t = some (.cells (encTab T))) {K : AVal → AHeap → Prop}
    (hK : K (.i (T.renameF c (T.resolve c fr false) (T.resolve c tg false) op).2) (H.put t (.cells (encTab (T.renameF c (T.resolve c fr false) (T.resolve c tg false) op).1)))) :
    ACalls Try.prog 28 [.ptr t 0, .agg (encCred c), .s fr, .s tg, .sl (encInts op) o] H K := by
  refine acalls_body Try.func28 rfl rfl rfl ?_
  obtain ⟨q, hq⟩ : ∃ q, q = T.resolve c tg false := ⟨_, rfl⟩
  have hqn := resolve_name T c tg false
  rw [← hq] at hK hqn
  have hn1 : q.1.name.size < 4294967281 := Nat.lt_of_le_of_lt hqn (by decide)
  have hn2 : q.1.name.size ≤ 40 := Nat.le_trans hqn (by decide)
  repeat first|apply w6|apply w7
  refine s_box rfl rfl rfl (fun b6 hb6 => ?_); have hb := hb6; (try simp only [put_none_iff, prot_none_iff] at hb); (repeat obtain ⟨_, _, hb⟩ := hb)
  repeat first|(apply x1;apply r0;apply r0)|(apply x2;apply r0;(apply q0);apply r0)|(apply x9;apply r0)|apply w4|apply w6|apply w7|apply w5
  refine find2_c hg hc (by with_reducible repeat first|exact q1 ‹_›|apply q3|exact n2 ‹_› ‹_›) ?_
  generalize T.resolve c fr false = p at hK ⊢
  obtain ⟨E, hE⟩ : ∃ E, E = T.renameE c p q := ⟨_, rfl⟩
  have hF : T.renameF c p q op = if ¬ E = 0 then (T, E) else if q.1.node = p.1.node then (T, 0) else if ¬ q.1.node = 0 then (T.cut q.1.dir q.1.name).moveF p.1 q.1 op else T.moveF p.1 q.1 op := by rw [hE]; rfl
  unfold Tab.renameE at hE
  generalize T.pfindE c p = pe at hE ⊢
  have hle := ents_len (T.at q.1.dir).ents
  repeat (apply x1;apply r0;apply r0)
  refine s_alloc tk rfl rfl rfl (fun b11 hb11 => ?_); have hb := hb11; (try simp only [put_none_iff, prot_none_iff] at hb); (repeat obtain ⟨_, _, hb⟩ := hb)
  repeat first|(apply x1;apply r0;apply r0)|(apply xst;apply r0;(apply ps);apply r0)|apply w4|apply w6|apply w7|apply w5
  refine aw_cond rfl (fun g1 => ?_) (fun g1 => ?_)<;>first|replace g1:=not_t g1|replace g1:=not_f g1
  · rw [if_pos g1] at hE
    rw [hF, hE, if_pos g1, put_id' hT] at hK
    repeat first|(apply x1;apply r0;apply r0)|apply w4|apply w6|apply w7|apply wd|apply w5|apply we
    exact rt1 (H' := H) rfl rfl (.refl _) (by repeat first|exact s0|(apply su1;assumption)) hK
  have g1' : pe = 0 := g1
  rw [if_neg (fun z => z g1')] at hE
  repeat first|(apply x1;apply r0;apply r0)|(apply x2;apply r0;(with_reducible repeat first|assumption|apply q0|apply q3);apply r0)|(apply x9;apply r0)|apply w6|apply w7|apply wa|apply w5
  refine pat_c hg hc (by with_reducible repeat first|exact q1 ‹_›|apply q3|exact n2 ‹_› ‹_›) ?_
  rw [← hq]
  repeat (apply x1;apply r0;apply r0)
  refine s_alloc tk rfl rfl rfl (fun b13 hb13 => ?_); have hb := hb13; (try simp only [put_none_iff, prot_none_iff] at hb); (repeat obtain ⟨_, _, hb⟩ := hb)
  repeat first|(apply x1;apply r0;apply r0)|(apply xst;apply r0;(apply ps);apply r0)|apply w4|apply w6|apply w7|apply wb|apply w5
  refine aw_cond rfl (fun g2 => ?_) (fun g2 => ?_)<;>first|replace g2:=not_t g2|replace g2:=not_f g2
  · rw [if_pos g2] at hE
    rw [hF, hE, if_pos g2, put_id' hT] at hK
    repeat first|(apply gO;first|(apply x1;apply r0;apply r0)|apply w4)|(apply gW;first|apply w6|apply w7|apply wd)|apply w5|apply we|apply wj
    exact rt1 (H' := H) rfl rfl (.refl _) (by repeat first|exact s0|(apply su1;assumption)) hK
  have g2' : q.2 = 0 := g2
  rw [if_neg (fun z => z g2')] at hE
  repeat first|(apply x1;apply r0;apply r0)|(apply x2;apply r0;(apply q0);apply r0)|apply w4|apply w6|apply w7|apply w5
  refine aw_cond rfl (fun g3 => ?_) (fun g3 => ?_)<;>first|replace g3:=of_decide_eq_true g3|replace g3:=of_decide_eq_false g3
  · rw [if_pos (show q.1.name = ⟨#[]⟩ from g3)] at hE
    rw [hF, hE, if_pos (show ¬ (22 : Int) = 0 by decide), put_id' hT] at hK
    repeat first|(apply gO;first|(apply x1;apply r0;apply r0)|apply w4)|(apply gW;first|apply w6|apply w7|apply wd)|apply w5|apply we|apply wj
    exact rt1 (H' := H) rfl rfl (.refl _) (by repeat first|exact s0|(apply su1;assumption)) hK
  rw [if_neg (show ¬ q.1.name = ⟨#[]⟩ from g3)] at hE
  repeat first|(apply x1;apply r0;apply r0)|(apply x2;apply r0;(with_reducible repeat first|assumption|apply q0|apply q3);apply r0)|(apply x9;apply r0)|apply w6|apply w7
  refine can1_c hg.wf hc (by with_reducible repeat first|exact q1 ‹_›|apply q3|exact n2 ‹_› ‹_›) ?_
  rw [show (T.placeOf q.1).f.dir = q.1.dir from rfl]
  cases hcan : T.can c q.1.dir 3 with
  | false =>
    rw [hcan, if_pos rfl] at hE
    rw [hF, hE, if_pos (show ¬ (13 : Int) = 0 by decide), put_id' hT] at hK
    repeat first|(apply gO;first|(apply x1;apply r0;apply r0)|apply w4)|(apply gW;first|apply w6|apply w7|(apply w8;apply r0)|apply wd)|apply w5|apply we|apply wj
    exact rt1 (H' := H) rfl rfl (.refl _) (by repeat first|exact s0|(apply su1;assumption)) hK
  | true =>
    rw [hcan, if_neg (by decide)] at hE
    repeat first|(apply x1;apply r0;apply r0)|(apply x2;apply r0;(with_reducible repeat first|assumption|apply q0|apply q3);apply r0)|apply w4|apply w6|apply w7|(apply w9;apply r0)|apply w5
    refine aw_cond rfl (fun g6 => ?_) (fun g6 => ?_)<;>first|replace g6:=of_decide_eq_true g6|replace g6:=of_decide_eq_false g6
    · have g6' : q.1.node = p.1.node := g6
      rw [if_pos g6'] at hE
      rw [hF, hE, if_neg (fun z => z rfl), if_pos g6', put_id' hT] at hK
      repeat first|(apply gO;first|(apply x1;apply r0;apply r0)|apply w4)|(apply gW;first|apply w6|apply w7|apply wd)|apply w5|apply we|apply wj
      exact rt1 (H' := H) rfl rfl (.refl _) (by repeat first|exact s0|(apply su1;assumption)) hK
    have g6' : ¬ q.1.node = p.1.node := g6
    rw [if_neg g6'] at hE
    have k7 : ∀ {α : Type} (a b : α), (if (T.at p.1.node).kind = 2 ∧ T.below 24 q.1.dir p.1.node = true then a else b) = if (decide ((T.at p.1.node).kind = 2) && T.below 24 q.1.dir p.1.node) = true then a else b := fun a b => by simp
    rw [k7] at hE
    clear k7
    by_cases k1 : (T.at p.1.node).kind = 2
    · rw [decide_eq_true k1, Bool.true_and] at hE
      repeat first|(apply x1;apply r0;apply r0)|(apply x2;apply r0;(with_reducible repeat first|assumption|apply q0|apply q3);apply r0)|apply w6|apply w7
      refine s_gsplit rfl rfl (fun g7 => ?_) (fun g7 => ?_)<;>first|replace g7:=of_decide_eq_true g7|replace g7:=of_decide_eq_false g7
      case refine_2 => exact absurd k1 g7
      repeat first|(apply x1;apply r0;apply r0)|(apply x2;apply r0;(with_reducible repeat first|assumption|apply q0|apply q3);apply r0)|(apply x5;apply r0)|(apply x9;apply r0)
      refine below_c hg (by with_reducible repeat first|exact q1 ‹_›|apply q3|exact n2 ‹_› ‹_›) ?_
      rw [show (T.placeOf q.1).f.dir = q.1.dir from rfl, show (T.placeOf p.1).f.node = p.1.node from rfl]
      cases hb : T.below 24 q.1.dir p.1.node with
      | true =>
        rw [hb, if_pos rfl] at hE
        rw [hF, hE, if_pos (show ¬ (22 : Int) = 0 by decide), put_id' hT] at hK
        repeat first|(apply gO;first|(apply x1;apply r0;apply r0)|apply w4)|(apply gW;first|apply w6|apply w7|(apply w8;apply r0)|apply wd)|apply w5|apply we|apply wj
        exact rt1 (H' := H) rfl rfl (.refl _) (by repeat first|exact s0|(apply su1;assumption)) hK
      | false =>
        rw [hb, if_neg (by decide)] at hE
        have k9 : ∀ {α : Type} (a b : α), (if q.1.node = 0 ∧ ¬ q.1.dir = p.1.dir ∧ 8 ≤ ((T.at q.1.dir).ents.length : Int) then a else b) = if (decide (q.1.node = 0) && (!decide (q.1.dir = p.1.dir) && decide (8 ≤ ((T.at q.1.dir).ents.length : Int)))) = true then a else b := fun a b => by simp
        rw [k9] at hE
        clear k9
        repeat first|(apply x1;apply r0;apply r0)|(apply x2;apply r0;(apply q0);apply r0)|apply w4|apply w6|apply w7|(apply w9;apply r0)|apply w5
        by_cases k2 : q.1.node = 0
        · rw [decide_eq_true k2, Bool.true_and] at hE
          refine s_gsplit rfl rfl (fun v1 => ?_) (fun v1 => ?_)<;>first|replace v1:=of_decide_eq_true v1|replace v1:=of_decide_eq_false v1
          case refine_2 => exact absurd k2 v1
          repeat first|(apply x1;apply r0;apply r0)|(apply x2;apply r0;(with_reducible repeat first|assumption|apply q0|apply q3);apply r0)|(apply x5;apply r0)
          by_cases k3 : q.1.dir = p.1.dir
          · rw [decide_eq_true k3, Bool.not_true, Bool.false_and, if_neg (by decide)] at hE
            refine s_gsplit rfl rfl (fun v2 => ?_) (fun v2 => ?_)<;>first|replace v2:=not_t v2|replace v2:=not_f v2
            · exact absurd k3 v2
            repeat first|(apply gO;first|(apply x1;apply r0;apply r0)|(apply x2;apply r0;(apply q0);apply r0)|apply w4|(apply w3;apply r0;apply r0))|(apply gW;first|apply w6|apply w7|(apply w9;apply r0)|apply wa)|apply w5|apply wg
            refine aw_cond rfl (fun h1 => ?_) (fun h1 => ?_)<;>first|replace h1:=not_t h1|replace h1:=not_f h1
            · have h1' : ¬ q.1.node = 0 := h1
              rw [if_pos h1'] at hE
              repeat first|(apply x2;apply r0;(with_reducible repeat first|assumption|apply q0|apply q3);apply r0)|(apply x9;apply r0)|apply w6|apply w7
              refine over_c ?_
              generalize T.overE c p.1 q.1 = ov at hE ⊢
              repeat first|(apply x1;apply r0;apply r0)|apply w4|apply w6|apply w7|apply w5
              refine aw_cond rfl (fun h2 => ?_) (fun h2 => ?_)<;>first|replace h2:=not_t h2|replace h2:=not_f h2
              · rw [hF, hE, if_pos h2, put_id' hT] at hK
                repeat first|(apply x1;apply r0;apply r0)|apply w4|apply w6|apply w7|apply wd|apply w5|apply we
                exact rt1 (H' := H) rfl rfl (.refl _) (by repeat first|exact s0|(apply su1;assumption)) hK
              have h2' : ov = 0 := h2
              rw [hF, hE, if_neg (fun z => z h2'), if_neg g6', if_pos h1'] at hK
              repeat first|(apply x1;apply r0;apply r0)|(apply x2;apply r0;(apply q0);apply r0)|(apply x9;apply r0)|apply w7|apply wa|apply w5
              refine cut_c (p := T.placeOf q.1) hg (by with_reducible repeat first|assumption|apply gp|exact n2 ‹_› ‹_›) ?_
              rw [show (T.placeOf q.1).f = q.1 from rfl]
              have hU := good_cut hg q.1.dir q.1.name
              generalize T.cut q.1.dir q.1.name = U at hK hU ⊢
              unfold Tab.moveF Tab.into at hK
              repeat first|(apply x1;apply r0;apply r0)|(apply x2;apply r0;(with_reducible repeat first|assumption|apply q0|apply q3|exact n4 ‹_› ‹_›);apply r0)|(apply x9;apply r0)|apply w4|apply w6|apply w7|apply w5
              refine cut_c (p := T.placeOf p.1) hU (by apply ps) ?_
              rw [show (T.placeOf p.1).f = p.1 from rfl]
              have hV := good_cut hU p.1.dir p.1.name
              generalize U.cut p.1.dir p.1.name = V at hK hV ⊢
              repeat first|(apply x1;apply r0;apply r0)|(apply x2;apply r0;(with_reducible repeat first|apply q0|apply q3|exact n4 ‹_› ‹_›);apply r0)|(apply x9;apply r0)|apply w4|apply w6|apply w7|apply w5
              refine tget_c hV.wf (by apply q0) ?_
              rw [show (T.placeOf q.1).f.dir = q.1.dir from rfl]
              have hd := at_few hV q.1.dir
              generalize V.at q.1.dir = d at hK hd ⊢
              repeat (apply x1;apply r0;apply r0)
              refine s_alloc tk rfl rfl rfl (fun b15 hb15 => ?_); have hb := hb15; (try simp only [put_none_iff, prot_none_iff] at hb); (repeat obtain ⟨_, _, hb⟩ := hb)
              repeat first|(apply gO;first|(apply x1;apply r0;apply r0)|(apply x2;apply r0;(with_reducible repeat first|assumption|apply q0|apply ps|apply q3|exact n4 ‹_› ‹_›);apply r0)|(apply xst;apply r0;(with_reducible repeat first|assumption|apply q0|apply ps|apply q3|exact n4 ‹_› ‹_›);apply r0)|(apply x9;apply r0)|apply w4)|(apply gW;first|apply w6|apply w7)|apply w5
              refine nwith_c hd.small hn1 ?_
              rw [show (T.placeOf q.1).f.name = q.1.name from rfl, show (T.placeOf p.1).f.node = p.1.node from rfl]
              have hws := (withN_sizes hd (name := q.1.name) hn2 p.1.node).1
              generalize d.withE q.1.name p.1.node = ze at hK ⊢
              generalize d.withN q.1.name p.1.node = zn at hK hws ⊢
              repeat first|(apply x1;apply r0;apply r0)|(apply xst;apply r0;(apply ps);apply r0)|apply w4|apply w6|apply w7|apply w5
              refine aw_cond rfl (fun z1 => ?_) (fun z1 => ?_)<;>first|replace z1:=of_decide_eq_true z1|replace z1:=of_decide_eq_false z1
              · rw [if_pos z1] at hK
                repeat first|(apply x1;apply r0;apply r0)|(apply x2;apply r0;(with_reducible repeat first|assumption|apply q0|apply q3|exact n4 ‹_› ‹_›);apply r0)|(apply x9;apply r0)|apply w7
                refine put2_c hV.wf (n := zn) hws (by with_reducible repeat first|assumption|apply ps|apply gp) ?_
                rw [show (T.placeOf q.1).f.dir = q.1.dir from rfl]
                have hW := good_putE hV q.1.dir zn
                generalize V.putE q.1.dir zn = W at hK hW ⊢
                repeat first|(apply x1;apply r0;apply r0)|(apply x2;apply r0;(with_reducible repeat first|assumption|apply q0|apply q3|exact n4 ‹_› ‹_›);apply r0)|(apply x9;apply r0)|apply w4|apply w6|apply w7|apply w5
                refine free_c hW hop (by apply ps) ?_
                rw [show (T.placeOf q.1).f.node = q.1.node from rfl]
                repeat first|(apply x1;apply r0;apply r0)|apply w4|apply w6|apply w7|apply wd|apply w5
                exact rt1 (H' := H.put t (.cells (encTab (W.1.freeN q.1.node op).1))) rfl rfl (.refl _) (by repeat first|exact s1|(apply su2;assumption)|apply put_sub'|apply del_sub1) hK
              · rw [if_neg z1] at hK
                repeat first|(apply x1;apply r0;apply r0)|(apply x2;apply r0;(with_reducible repeat first|assumption|apply q0|apply q3|exact n4 ‹_› ‹_›);apply r0)|(apply x9;apply r0)|apply w6|apply w7|apply wa|apply w5
                refine free_c hV hop (by with_reducible repeat first|assumption|apply ps|apply gp) ?_
                rw [show (T.placeOf q.1).f.node = q.1.node from rfl]
                repeat first|(apply x1;apply r0;apply r0)|apply w4|apply w6|apply w7|apply wd|apply w5
                exact rt1 (H' := H.put t (.cells (encTab (V.freeN q.1.node op).1))) rfl rfl (.refl _) (by repeat first|exact s1|(apply su2;assumption)|apply put_sub'|apply del_sub1) hK
            · have h1' : ¬ ¬ q.1.node = 0 := fun z => z h1
              rw [if_neg h1'] at hE
              rw [hF, hE, if_neg (fun z => z rfl), if_neg g6', if_neg h1'] at hK
              obtain ⟨U, hUT⟩ : ∃ U, U = T := ⟨T, rfl⟩
              have hU : U.good := by rw [hUT]; exact hg
              rw [show T.moveF p.1 q.1 op = U.moveF p.1 q.1 op by rw [hUT]] at hK
              have hTU : H t = some (.cells (encTab U)) := by rw [hUT]; exact hT
              unfold Tab.moveF Tab.into at hK
              repeat first|(apply x1;apply r0;apply r0)|(apply x2;apply r0;(with_reducible repeat first|assumption|apply q0|apply q3);apply r0)|(apply x9;apply r0)|apply w6|apply w7|apply wa|apply w5
              refine cut_c (p := T.placeOf p.1) hU (by with_reducible repeat first|assumption|apply gp|exact n2 ‹_› ‹_›) ?_
              rw [show (T.placeOf p.1).f = p.1 from rfl]
              have hV := good_cut hU p.1.dir p.1.name
              generalize U.cut p.1.dir p.1.name = V at hK hV ⊢
              repeat first|(apply x1;apply r0;apply r0)|(apply x2;apply r0;(with_reducible repeat first|apply q0|apply q3|exact n4 ‹_› ‹_›);apply r0)|(apply x9;apply r0)|apply w4|apply w6|apply w7|apply w5
              refine tget_c hV.wf (by apply q0) ?_
              rw [show (T.placeOf q.1).f.dir = q.1.dir from rfl]
              have hd := at_few hV q.1.dir
              generalize V.at q.1.dir = d at hK hd ⊢
              repeat (apply x1;apply r0;apply r0)
              refine s_alloc tk rfl rfl rfl (fun b15 hb15 => ?_); have hb := hb15; (try simp only [put_none_iff, prot_none_iff] at hb); (repeat obtain ⟨_, _, hb⟩ := hb)
              repeat first|(apply gO;first|(apply x1;apply r0;apply r0)|(apply x2;apply r0;(with_reducible repeat first|assumption|apply q0|apply ps|apply q3|exact n4 ‹_› ‹_›);apply r0)|(apply xst;apply r0;(with_reducible repeat first|assumption|apply q0|apply ps|apply q3|exact n4 ‹_› ‹_›);apply r0)|(apply x9;apply r0)|apply w4)|(apply gW;first|apply w6|apply w7)|apply w5
              refine nwith_c hd.small hn1 ?_
              rw [show (T.placeOf q.1).f.name = q.1.name from rfl, show (T.placeOf p.1).f.node = p.1.node from rfl]
              have hws := (withN_sizes hd (name := q.1.name) hn2 p.1.node).1
              generalize d.withE q.1.name p.1.node = ze at hK ⊢
              generalize d.withN q.1.name p.1.node = zn at hK hws ⊢
              repeat first|(apply x1;apply r0;apply r0)|(apply xst;apply r0;(apply ps);apply r0)|apply w4|apply w6|apply w7|apply w5
              refine aw_cond rfl (fun z1 => ?_) (fun z1 => ?_)<;>first|replace z1:=of_decide_eq_true z1|replace z1:=of_decide_eq_false z1
              · rw [if_pos z1] at hK
                repeat first|(apply x1;apply r0;apply r0)|(apply x2;apply r0;(with_reducible repeat first|assumption|apply q0|apply q3|exact n4 ‹_› ‹_›);apply r0)|(apply x9;apply r0)|apply w7
                refine put2_c hV.wf (n := zn) hws (by with_reducible repeat first|assumption|apply ps|apply gp) ?_
                rw [show (T.placeOf q.1).f.dir = q.1.dir from rfl]
                have hW := good_putE hV q.1.dir zn
                generalize V.putE q.1.dir zn = W at hK hW ⊢
                repeat first|(apply x1;apply r0;apply r0)|(apply x2;apply r0;(with_reducible repeat first|assumption|apply q0|apply q3|exact n4 ‹_› ‹_›);apply r0)|(apply x9;apply r0)|apply w4|apply w6|apply w7|apply w5
                refine free_c hW hop (by apply ps) ?_
                rw [show (T.placeOf q.1).f.node = q.1.node from rfl]
                repeat first|(apply x1;apply r0;apply r0)|apply w4|apply w6|apply w7|apply wd|apply w5
                exact rt1 (H' := H.put t (.cells (encTab (W.1.freeN q.1.node op).1))) rfl rfl (.refl _) (by repeat first|exact s1|(apply su2;assumption)|apply put_sub'|apply del_sub1) hK
              · rw [if_neg z1] at hK
                repeat first|(apply x1;apply r0;apply r0)|(apply x2;apply r0;(with_reducible repeat first|assumption|apply q0|apply q3|exact n4 ‹_› ‹_›);apply r0)|(apply x9;apply r0)|apply w6|apply w7|apply wa|apply w5
                refine free_c hV hop (by with_reducible repeat first|assumption|apply ps|apply gp) ?_
                rw [show (T.placeOf q.1).f.node = q.1.node from rfl]
                repeat first|(apply x1;apply r0;apply r0)|apply w4|apply w6|apply w7|apply wd|apply w5
                exact rt1 (H' := H.put t (.cells (encTab (V.freeN q.1.node op).1))) rfl rfl (.refl _) (by repeat first|exact s1|(apply su2;assumption)|apply put_sub'|apply del_sub1) hK
          · rw [decide_eq_false k3, Bool.not_false, Bool.true_and] at hE
            refine s_gsplit rfl rfl (fun v2 => ?_) (fun v2 => ?_)<;>first|replace v2:=not_t v2|replace v2:=not_f v2
            case refine_2 => exact absurd v2 k3
            repeat first|(apply x1;apply r0;apply r0)|(apply x2;apply r0;(apply q0);apply r0)|(apply x5;apply r0)|apply w4|apply w5
            refine aw_cond rfl (fun v3 => ?_) (fun v3 => ?_)<;>first|replace v3:=of_decide_eq_true v3|replace v3:=of_decide_eq_false v3
            · have v3' : 8 ≤ (((T.at q.1.dir).ents.map encEnt).length : Int) := v3
              rw [hle] at v3'
              rw [if_pos (decide_eq_true v3')] at hE
              rw [hF, hE, if_pos (show ¬ (28 : Int) = 0 by decide), put_id' hT] at hK
              repeat first|(apply gO;first|(apply x1;apply r0;apply r0)|apply w4)|(apply gW;first|apply w6|apply w7|apply wd)|apply w5|apply we|apply wj
              exact rt1 (H' := H) rfl rfl (.refl _) (by repeat first|exact s0|(apply su1;assumption)) hK
            have v3' : ¬ 8 ≤ (((T.at q.1.dir).ents.map encEnt).length : Int) := v3
            rw [hle] at v3'
            rw [if_neg (by rw [decide_eq_false v3']; decide)] at hE
            repeat first|(apply gO;first|(apply x1;apply r0;apply r0)|(apply x2;apply r0;(apply q0);apply r0)|apply w4)|(apply gW;first|apply w6|apply w7|apply wa)|apply w5|apply wg
            refine aw_cond rfl (fun h1 => ?_) (fun h1 => ?_)<;>first|replace h1:=not_t h1|replace h1:=not_f h1
            · have h1' : ¬ q.1.node = 0 := h1
              rw [if_pos h1'] at hE
              repeat first|(apply x2;apply r0;(with_reducible repeat first|assumption|apply q0|apply q3);apply r0)|(apply x9;apply r0)|apply w6|apply w7
              refine over_c ?_
              generalize T.overE c p.1 q.1 = ov at hE ⊢
              repeat first|(apply x1;apply r0;apply r0)|apply w4|apply w6|apply w7|apply w5
              refine aw_cond rfl (fun h2 => ?_) (fun h2 => ?_)<;>first|replace h2:=not_t h2|replace h2:=not_f h2
              · rw [hF, hE, if_pos h2, put_id' hT] at hK
                repeat first|(apply x1;apply r0;apply r0)|apply w4|apply w6|apply w7|apply wd|apply w5|apply we
                exact rt1 (H' := H) rfl rfl (.refl _) (by repeat first|exact s0|(apply su1;assumption)) hK
              have h2' : ov = 0 := h2
              rw [hF, hE, if_neg (fun z => z h2'), if_neg g6', if_pos h1'] at hK
              repeat first|(apply x1;apply r0;apply r0)|(apply x2;apply r0;(apply q0);apply r0)|(apply x9;apply r0)|apply w7|apply wa|apply w5
              refine cut_c (p := T.placeOf q.1) hg (by with_reducible repeat first|assumption|apply gp|exact n2 ‹_› ‹_›) ?_
              rw [show (T.placeOf q.1).f = q.1 from rfl]
              have hU := good_cut hg q.1.dir q.1.name
              generalize T.cut q.1.dir q.1.name = U at hK hU ⊢
              unfold Tab.moveF Tab.into at hK
              repeat first|(apply x1;apply r0;apply r0)|(apply x2;apply r0;(with_reducible repeat first|assumption|apply q0|apply q3|exact n4 ‹_› ‹_›);apply r0)|(apply x9;apply r0)|apply w4|apply w6|apply w7|apply w5
              refine cut_c (p := T.placeOf p.1) hU (by apply ps) ?_
              rw [show (T.placeOf p.1).f = p.1 from rfl]
              have hV := good_cut hU p.1.dir p.1.name
              generalize U.cut p.1.dir p.1.name = V at hK hV ⊢
              repeat first|(apply x1;apply r0;apply r0)|(apply x2;apply r0;(with_reducible repeat first|apply q0|apply q3|exact n4 ‹_› ‹_›);apply r0)|(apply x9;apply r0)|apply w4|apply w6|apply w7|apply w5
              refine tget_c hV.wf (by apply q0) ?_
              rw [show (T.placeOf q.1).f.dir = q.1.dir from rfl]
              have hd := at_few hV q.1.dir
              generalize V.at q.1.dir = d at hK hd ⊢
              repeat (apply x1;apply r0;apply r0)
              refine s_alloc tk rfl rfl rfl (fun b15 hb15 => ?_); have hb := hb15; (try simp only [put_none_iff, prot_none_iff] at hb); (repeat obtain ⟨_, _, hb⟩ := hb)
              repeat first|(apply gO;first|(apply x1;apply r0;apply r0)|(apply x2;apply r0;(with_reducible repeat first|assumption|apply q0|apply ps|apply q3|exact n4 ‹_› ‹_›);apply r0)|(apply xst;apply r0;(with_reducible repeat first|assumption|apply q0|apply ps|apply q3|exact n4 ‹_› ‹_›);apply r0)|(apply x9;apply r0)|apply w4)|(apply gW;first|apply w6|apply w7)|apply w5
              refine nwith_c hd.small hn1 ?_
              rw [show (T.placeOf q.1).f.name = q.1.name from rfl, show (T.placeOf p.1).f.node = p.1.node from rfl]
              have hws := (withN_sizes hd (name := q.1.name) hn2 p.1.node).1
              generalize d.withE q.1.name p.1.node = ze at hK ⊢
              generalize d.withN q.1.name p.1.node = zn at hK hws ⊢
              repeat first|(apply x1;apply r0;apply r0)|(apply xst;apply r0;(apply ps);apply r0)|apply w4|apply w6|apply w7|apply w5
              refine aw_cond rfl (fun z1 => ?_) (fun z1 => ?_)<;>first|replace z1:=of_decide_eq_true z1|replace z1:=of_decide_eq_false z1
              · rw [if_pos z1] at hK
                repeat first|(apply x1;apply r0;apply r0)|(apply x2;apply r0;(with_reducible repeat first|assumption|apply q0|apply q3|exact n4 ‹_› ‹_›);apply r0)|(apply x9;apply r0)|apply w7
                refine put2_c hV.wf (n := zn) hws (by with_reducible repeat first|assumption|apply ps|apply gp) ?_
                rw [show (T.placeOf q.1).f.dir = q.1.dir from rfl]
                have hW := good_putE hV q.1.dir zn
                generalize V.putE q.1.dir zn = W at hK hW ⊢
                repeat first|(apply x1;apply r0;apply r0)|(apply x2;apply r0;(with_reducible repeat first|assumption|apply q0|apply q3|exact n4 ‹_› ‹_›);apply r0)|(apply x9;apply r0)|apply w4|apply w6|apply w7|apply w5
                refine free_c hW hop (by apply ps) ?_
                rw [show (T.placeOf q.1).f.node = q.1.node from rfl]
                repeat first|(apply x1;apply r0;apply r0)|apply w4|apply w6|apply w7|apply wd|apply w5
                exact rt1 (H' := H.put t (.cells (encTab (W.1.freeN q.1.node op).1))) rfl rfl (.refl _) (by repeat first|exact s1|(apply su2;assumption)|apply put_sub'|apply del_sub1) hK
              · rw [if_neg z1] at hK
                repeat first|(apply x1;apply r0;apply r0)|(apply x2;apply r0;(with_reducible repeat first|assumption|apply q0|apply q3|exact n4 ‹_› ‹_›);apply r0)|(apply x9;apply r0)|apply w6|apply w7|apply wa|apply w5
                refine free_c hV hop (by with_reducible repeat first|assumption|apply ps|apply gp) ?_
                rw [show (T.placeOf q.1).f.node = q.1.node from rfl]
                repeat first|(apply x1;apply r0;apply r0)|apply w4|apply w6|apply w7|apply wd|apply w5
                exact rt1 (H' := H.put t (.cells (encTab (V.freeN q.1.node op).1))) rfl rfl (.refl _) (by repeat first|exact s1|(apply su2;assumption)|apply put_sub'|apply del_sub1) hK
            · have h1' : ¬ ¬ q.1.node = 0 := fun z => z h1
              rw [if_neg h1'] at hE
              rw [hF, hE, if_neg (fun z => z rfl), if_neg g6', if_neg h1'] at hK
              obtain ⟨U, hUT⟩ : ∃ U, U = T := ⟨T, rfl⟩
              have hU : U.good := by rw [hUT]; exact hg
              rw [show T.moveF p.1 q.1 op = U.moveF p.1 q.1 op by rw [hUT]] at hK
              have hTU : H t = some (.cells (encTab U)) := by rw [hUT]; exact hT
              unfold Tab.moveF Tab.into at hK
              repeat first|(apply x1;apply r0;apply r0)|(apply x2;apply r0;(with_reducible repeat first|assumption|apply q0|apply q3);apply r0)|(apply x9;apply r0)|apply w6|apply w7|apply wa|apply w5
              refine cut_c (p := T.placeOf p.1) hU (by with_reducible repeat first|assumption|apply gp|exact n2 ‹_› ‹_›) ?_
              rw [show (T.placeOf p.1).f = p.1 from rfl]
              have hV := good_cut hU p.1.dir p.1.name
              generalize U.cut p.1.dir p.1.name = V at hK hV ⊢
              repeat first|(apply x1;apply r0;apply r0)|(apply x2;apply r0;(with_reducible repeat first|apply q0|apply q3|exact n4 ‹_› ‹_›);apply r0)|(apply x9;apply r0)|apply w4|apply w6|apply w7|apply w5
              refine tget_c hV.wf (by apply q0) ?_
              rw [show (T.placeOf q.1).f.dir = q.1.dir from rfl]
              have hd := at_few hV q.1.dir
              generalize V.at q.1.dir = d at hK hd ⊢
              repeat (apply x1;apply r0;apply r0)
              refine s_alloc tk rfl rfl rfl (fun b15 hb15 => ?_); have hb := hb15; (try simp only [put_none_iff, prot_none_iff] at hb); (repeat obtain ⟨_, _, hb⟩ := hb)
              repeat first|(apply gO;first|(apply x1;apply r0;apply r0)|(apply x2;apply r0;(with_reducible repeat first|assumption|apply q0|apply ps|apply q3|exact n4 ‹_› ‹_›);apply r0)|(apply xst;apply r0;(with_reducible repeat first|assumption|apply q0|apply ps|apply q3|exact n4 ‹_› ‹_›);apply r0)|(apply x9;apply r0)|apply w4)|(apply gW;first|apply w6|apply w7)|apply w5
              refine nwith_c hd.small hn1 ?_
              rw [show (T.placeOf q.1).f.name = q.1.name from rfl, show (T.placeOf p.1).f.node = p.1.node from rfl]
              have hws := (withN_sizes hd (name := q.1.name) hn2 p.1.node).1
              generalize d.withE q.1.name p.1.node = ze at hK ⊢
              generalize d.withN q.1.name p.1.node = zn at hK hws ⊢
              repeat first|(apply x1;apply r0;apply r0)|(apply xst;apply r0;(apply ps);apply r0)|apply w4|apply w6|apply w7|apply w5
              refine aw_cond rfl (fun z1 => ?_) (fun z1 => ?_)<;>first|replace z1:=of_decide_eq_true z1|replace z1:=of_decide_eq_false z1
              · rw [if_pos z1] at hK
                repeat first|(apply x1;apply r0;apply r0)|(apply x2;apply r0;(with_reducible repeat first|assumption|apply q0|apply q3|exact n4 ‹_› ‹_›);apply r0)|(apply x9;apply r0)|apply w7
                refine put2_c hV.wf (n := zn) hws (by with_reducible repeat first|assumption|apply ps|apply gp) ?_
                rw [show (T.placeOf q.1).f.dir = q.1.dir from rfl]
                have hW := good_putE hV q.1.dir zn
                generalize V.putE q.1.dir zn = W at hK hW ⊢
                repeat first|(apply x1;apply r0;apply r0)|(apply x2;apply r0;(with_reducible repeat first|assumption|apply q0|apply q3|exact n4 ‹_› ‹_›);apply r0)|(apply x9;apply r0)|apply w4|apply w6|apply w7|apply w5
                refine free_c hW hop (by apply ps) ?_
                rw [show (T.placeOf q.1).f.node = q.1.node from rfl]
                repeat first|(apply x1;apply r0;apply r0)|apply w4|apply w6|apply w7|apply wd|apply w5
                exact rt1 (H' := H.put t (.cells (encTab (W.1.freeN q.1.node op).1))) rfl rfl (.refl _) (by repeat first|exact s1|(apply su2;assumption)|apply put_sub'|apply del_sub1) hK
              · rw [if_neg z1] at hK
                repeat first|(apply x1;apply r0;apply r0)|(apply x2;apply r0;(with_reducible repeat first|assumption|apply q0|apply q3|exact n4 ‹_› ‹_›);apply r0)|(apply x9;apply r0)|apply w6|apply w7|apply wa|apply w5
                refine free_c hV hop (by with_reducible repeat first|assumption|apply ps|apply gp) ?_
                rw [show (T.placeOf q.1).f.node = q.1.node from rfl]
                repeat first|(apply x1;apply r0;apply r0)|apply w4|apply w6|apply w7|apply wd|apply w5
                exact rt1 (H' := H.put t (.cells (encTab (V.freeN q.1.node op).1))) rfl rfl (.refl _) (by repeat first|exact s1|(apply su2;assumption)|apply put_sub'|apply del_sub1) hK
        · rw [decide_eq_false k2, Bool.false_and, if_neg (by decide)] at hE
          refine s_gsplit rfl rfl (fun v1 => ?_) (fun v1 => ?_)<;>first|replace v1:=of_decide_eq_true v1|replace v1:=of_decide_eq_false v1
          · exact absurd v1 k2
          repeat first|(apply gO;first|(apply x1;apply r0;apply r0)|(apply x2;apply r0;(apply q0);apply r0)|apply w4|(apply w3;apply r0;apply r0))|(apply gW;first|apply w6|apply w7|(apply w9;apply r0)|apply wa)|apply w5|apply wg
          skip
          refine aw_cond rfl (fun h1 => ?_) (fun h1 => ?_)<;>first|replace h1:=not_t h1|replace h1:=not_f h1
          · have h1' : ¬ q.1.node = 0 := h1
            rw [if_pos h1'] at hE
            repeat first|(apply x2;apply r0;(with_reducible repeat first|assumption|apply q0|apply q3);apply r0)|(apply x9;apply r0)|apply w6|apply w7
            refine over_c ?_
            generalize T.overE c p.1 q.1 = ov at hE ⊢
            repeat first|(apply x1;apply r0;apply r0)|apply w4|apply w6|apply w7|apply w5
            refine aw_cond rfl (fun h2 => ?_) (fun h2 => ?_)<;>first|replace h2:=not_t h2|replace h2:=not_f h2
            · rw [hF, hE, if_pos h2, put_id' hT] at hK
              repeat first|(apply x1;apply r0;apply r0)|apply w4|apply w6|apply w7|apply wd|apply w5|apply we
              exact rt1 (H' := H) rfl rfl (.refl _) (by repeat first|exact s0|(apply su1;assumption)) hK
            have h2' : ov = 0 := h2
            rw [hF, hE, if_neg (fun z => z h2'), if_neg g6', if_pos h1'] at hK
            repeat first|(apply x1;apply r0;apply r0)|(apply x2;apply r0;(apply q0);apply r0)|(apply x9;apply r0)|apply w7|apply wa|apply w5
            refine cut_c (p := T.placeOf q.1) hg (by with_reducible repeat first|assumption|apply gp|exact n2 ‹_› ‹_›) ?_
            rw [show (T.placeOf q.1).f = q.1 from rfl]
            have hU := good_cut hg q.1.dir q.1.name
            generalize T.cut q.1.dir q.1.name = U at hK hU ⊢
            unfold Tab.moveF Tab.into at hK
            repeat first|(apply x1;apply r0;apply r0)|(apply x2;apply r0;(with_reducible repeat first|assumption|apply q0|apply q3|exact n4 ‹_› ‹_›);apply r0)|(apply x9;apply r0)|apply w4|apply w6|apply w7|apply w5
            refine cut_c (p := T.placeOf p.1) hU (by apply ps) ?_
            rw [show (T.placeOf p.1).f = p.1 from rfl]
            have hV := good_cut hU p.1.dir p.1.name
            generalize U.cut p.1.dir p.1.name = V at hK hV ⊢
            repeat first|(apply x1;apply r0;apply r0)|(apply x2;apply r0;(with_reducible repeat first|apply q0|apply q3|exact n4 ‹_› ‹_›);apply r0)|(apply x9;apply r0)|apply w4|apply w6|apply w7|apply w5
            refine tget_c hV.wf (by apply q0) ?_
            rw [show (T.placeOf q.1).f.dir = q.1.dir from rfl]
            have hd := at_few hV q.1.dir
            generalize V.at q.1.dir = d at hK hd ⊢
            repeat (apply x1;apply r0;apply r0)
            refine s_alloc tk rfl rfl rfl (fun b15 hb15 => ?_); have hb := hb15; (try simp only [put_none_iff, prot_none_iff] at hb); (repeat obtain ⟨_, _, hb⟩ := hb)
            repeat first|(apply gO;first|(apply x1;apply r0;apply r0)|(apply x2;apply r0;(with_reducible repeat first|assumption|apply q0|apply ps|apply q3|exact n4 ‹_› ‹_›);apply r0)|(apply xst;apply r0;(with_reducible repeat first|assumption|apply q0|apply ps|apply q3|exact n4 ‹_› ‹_›);apply r0)|(apply x9;apply r0)|apply w4)|(apply gW;first|apply w6|apply w7)|apply w5
            refine nwith_c hd.small hn1 ?_
            rw [show (T.placeOf q.1).f.name = q.1.name from rfl, show (T.placeOf p.1).f.node = p.1.node from rfl]
            have hws := (withN_sizes hd (name := q.1.name) hn2 p.1.node).1
            generalize d.withE q.1.name p.1.node = ze at hK ⊢
            generalize d.withN q.1.name p.1.node = zn at hK hws ⊢
            repeat first|(apply x1;apply r0;apply r0)|(apply xst;apply r0;(apply ps);apply r0)|apply w4|apply w6|apply w7|apply w5
            refine aw_cond rfl (fun z1 => ?_) (fun z1 => ?_)<;>first|replace z1:=of_decide_eq_true z1|replace z1:=of_decide_eq_false z1
            · rw [if_pos z1] at hK
              repeat first|(apply x1;apply r0;apply r0)|(apply x2;apply r0;(with_reducible repeat first|assumption|apply q0|apply q3|exact n4 ‹_› ‹_›);apply r0)|(apply x9;apply r0)|apply w7
              refine put2_c hV.wf (n := zn) hws (by with_reducible repeat first|assumption|apply ps|apply gp) ?_
              rw [show (T.placeOf q.1).f.dir = q.1.dir from rfl]
              have hW := good_putE hV q.1.dir zn
              generalize V.putE q.1.dir zn = W at hK hW ⊢
              repeat first|(apply x1;apply r0;apply r0)|(apply x2;apply r0;(with_reducible repeat first|assumption|apply q0|apply q3|exact n4 ‹_› ‹_›);apply r0)|(apply x9;apply r0)|apply w4|apply w6|apply w7|apply w5
              refine free_c hW hop (by apply ps) ?_
              rw [show (T.placeOf q.1).f.node = q.1.node from rfl]
              repeat first|(apply x1;apply r0;apply r0)|apply w4|apply w6|apply w7|apply wd|apply w5
              exact rt1 (H' := H.put t (.cells (encTab (W.1.freeN q.1.node op).1))) rfl rfl (.refl _) (by repeat first|exact s1|(apply su2;assumption)|apply put_sub'|apply del_sub1) hK
            · rw [if_neg z1] at hK
              repeat first|(apply x1;apply r0;apply r0)|(apply x2;apply r0;(with_reducible repeat first|assumption|apply q0|apply q3|exact n4 ‹_› ‹_›);apply r0)|(apply x9;apply r0)|apply w6|apply w7|apply wa|apply w5
              refine free_c hV hop (by with_reducible repeat first|assumption|apply ps|apply gp) ?_
              rw [show (T.placeOf q.1).f.node = q.1.node from rfl]
              repeat first|(apply x1;apply r0;apply r0)|apply w4|apply w6|apply w7|apply wd|apply w5
              exact rt1 (H' := H.put t (.cells (encTab (V.freeN q.1.node op).1))) rfl rfl (.refl _) (by repeat first|exact s1|(apply su2;assumption)|apply put_sub'|apply del_sub1) hK
          · have h1' : ¬ ¬ q.1.node = 0 := fun z => z h1
            rw [if_neg h1'] at hE
            rw [hF, hE, if_neg (fun z => z rfl), if_neg g6', if_neg h1'] at hK
            obtain ⟨U, hUT⟩ : ∃ U, U = T := ⟨T, rfl⟩
            have hU : U.good := by rw [hUT]; exact hg
            rw [show T.moveF p.1 q.1 op = U.moveF p.1 q.1 op by rw [hUT]] at hK
            have hTU : H t = some (.cells (encTab U)) := by rw [hUT]; exact hT
            unfold Tab.moveF Tab.into at hK
            repeat first|(apply x1;apply r0;apply r0)|(apply x2;apply r0;(with_reducible repeat first|assumption|apply q0|apply q3);apply r0)|(apply x9;apply r0)|apply w6|apply w7|apply wa|apply w5
            refine cut_c (p := T.placeOf p.1) hU (by with_reducible repeat first|assumption|apply gp|exact n2 ‹_› ‹_›) ?_
            rw [show (T.placeOf p.1).f = p.1 from rfl]
            have hV := good_cut hU p.1.dir p.1.name
            generalize U.cut p.1.dir p.1.name = V at hK hV ⊢
            repeat first|(apply x1;apply r0;apply r0)|(apply x2;apply r0;(with_reducible repeat first|apply q0|apply q3|exact n4 ‹_› ‹_›);apply r0)|(apply x9;apply r0)|apply w4|apply w6|apply w7|apply w5
            refine tget_c hV.wf (by apply q0) ?_
            rw [show (T.placeOf q.1).f.dir = q.1.dir from rfl]
            have hd := at_few hV q.1.dir
            generalize V.at q.1.dir = d at hK hd ⊢
            repeat (apply x1;apply r0;apply r0)
            refine s_alloc tk rfl rfl rfl (fun b15 hb15 => ?_); have hb := hb15; (try simp only [put_none_iff, prot_none_iff] at hb); (repeat obtain ⟨_, _, hb⟩ := hb)
            repeat first|(apply gO;first|(apply x1;apply r0;apply r0)|(apply x2;apply r0;(with_reducible repeat first|assumption|apply q0|apply ps|apply q3|exact n4 ‹_› ‹_›);apply r0)|(apply xst;apply r0;(with_reducible repeat first|assumption|apply q0|apply ps|apply q3|exact n4 ‹_› ‹_›);apply r0)|(apply x9;apply r0)|apply w4)|(apply gW;first|apply w6|apply w7)|apply w5
            refine nwith_c hd.small hn1 ?_
            rw [show (T.placeOf q.1).f.name = q.1.name from rfl, show (T.placeOf p.1).f.node = p.1.node from rfl]
            have hws := (withN_sizes hd (name := q.1.name) hn2 p.1.node).1
            generalize d.withE q.1.name p.1.node = ze at hK ⊢
            generalize d.withN q.1.name p.1.node = zn at hK hws ⊢
            repeat first|(apply x1;apply r0;apply r0)|(apply xst;apply r0;(apply ps);apply r0)|apply w4|apply w6|apply w7|apply w5
            refine aw_cond rfl (fun z1 => ?_) (fun z1 => ?_)<;>first|replace z1:=of_decide_eq_true z1|replace z1:=of_decide_eq_false z1
            · rw [if_pos z1] at hK
              repeat first|(apply x1;apply r0;apply r0)|(apply x2;apply r0;(with_reducible repeat first|assumption|apply q0|apply q3|exact n4 ‹_› ‹_›);apply r0)|(apply x9;apply r0)|apply w7
              refine put2_c hV.wf (n := zn) hws (by with_reducible repeat first|assumption|apply ps|apply gp) ?_
              rw [show (T.placeOf q.1).f.dir = q.1.dir from rfl]
              have hW := good_putE hV q.1.dir zn
              generalize V.putE q.1.dir zn = W at hK hW ⊢
              repeat first|(apply x1;apply r0;apply r0)|(apply x2;apply r0;(with_reducible repeat first|assumption|apply q0|apply q3|exact n4 ‹_› ‹_›);apply r0)|(apply x9;apply r0)|apply w4|apply w6|apply w7|apply w5
              refine free_c hW hop (by apply ps) ?_
              rw [show (T.placeOf q.1).f.node = q.1.node from rfl]
              repeat first|(apply x1;apply r0;apply r0)|apply w4|apply w6|apply w7|apply wd|apply w5
              exact rt1 (H' := H.put t (.cells (encTab (W.1.freeN q.1.node op).1))) rfl rfl (.refl _) (by repeat first|exact s1|(apply su2;assumption)|apply put_sub'|apply del_sub1) hK
            · rw [if_neg z1] at hK
              repeat first|(apply x1;apply r0;apply r0)|(apply x2;apply r0;(with_reducible repeat first|assumption|apply q0|apply q3|exact n4 ‹_› ‹_›);apply r0)|(apply x9;apply r0)|apply w6|apply w7|apply wa|apply w5
              refine free_c hV hop (by with_reducible repeat first|assumption|apply ps|apply gp) ?_
              rw [show (T.placeOf q.1).f.node = q.1.node from rfl]
              repeat first|(apply x1;apply r0;apply r0)|apply w4|apply w6|apply w7|apply wd|apply w5
              exact rt1 (H' := H.put t (.cells (encTab (V.freeN q.1.node op).1))) rfl rfl (.refl _) (by repeat first|exact s1|(apply su2;assumption)|apply put_sub'|apply del_sub1) hK
    · rw [decide_eq_false k1, Bool.false_and, if_neg (by decide)] at hE
      repeat first|(apply x1;apply r0;apply r0)|(apply x2;apply r0;(with_reducible repeat first|assumption|apply q0|apply q3);apply r0)|apply w6|apply w7
      refine s_gsplit rfl rfl (fun g7 => ?_) (fun g7 => ?_)<;>first|replace g7:=of_decide_eq_true g7|replace g7:=of_decide_eq_false g7
      · exact absurd g7 k1
      have k9 : ∀ {α : Type} (a b : α), (if q.1.node = 0 ∧ ¬ q.1.dir = p.1.dir ∧ 8 ≤ ((T.at q.1.dir).ents.length : Int) then a else b) = if (decide (q.1.node = 0) && (!decide (q.1.dir = p.1.dir) && decide (8 ≤ ((T.at q.1.dir).ents.length : Int)))) = true then a else b := fun a b => by simp
      rw [k9] at hE
      clear k9
      repeat first|(apply gO;first|(apply x1;apply r0;apply r0)|(apply x2;apply r0;(apply q0);apply r0)|apply w4|(apply w3;apply r0;apply r0))|(apply gW;first|apply w6|apply w7|(apply w9;apply r0))|apply w5
      by_cases k2 : q.1.node = 0
      · rw [decide_eq_true k2, Bool.true_and] at hE
        refine s_gsplit rfl rfl (fun v1 => ?_) (fun v1 => ?_)<;>first|replace v1:=of_decide_eq_true v1|replace v1:=of_decide_eq_false v1
        case refine_2 => exact absurd k2 v1
        repeat first|(apply x1;apply r0;apply r0)|(apply x2;apply r0;(with_reducible repeat first|assumption|apply q0|apply q3);apply r0)|(apply x5;apply r0)
        by_cases k3 : q.1.dir = p.1.dir
        · rw [decide_eq_true k3, Bool.not_true, Bool.false_and, if_neg (by decide)] at hE
          refine s_gsplit rfl rfl (fun v2 => ?_) (fun v2 => ?_)<;>first|replace v2:=not_t v2|replace v2:=not_f v2
          · exact absurd k3 v2
          repeat first|(apply gO;first|(apply x1;apply r0;apply r0)|(apply x2;apply r0;(apply q0);apply r0)|apply w4|(apply w3;apply r0;apply r0))|(apply gW;first|apply w6|apply w7|(apply w9;apply r0)|apply wa)|apply w5|apply wg
          refine aw_cond rfl (fun h1 => ?_) (fun h1 => ?_)<;>first|replace h1:=not_t h1|replace h1:=not_f h1
          · have h1' : ¬ q.1.node = 0 := h1
            rw [if_pos h1'] at hE
            repeat first|(apply x2;apply r0;(with_reducible repeat first|assumption|apply q0|apply q3);apply r0)|(apply x9;apply r0)|apply w6|apply w7
            refine over_c ?_
            generalize T.overE c p.1 q.1 = ov at hE ⊢
            repeat first|(apply x1;apply r0;apply r0)|apply w4|apply w6|apply w7|apply w5
            refine aw_cond rfl (fun h2 => ?_) (fun h2 => ?_)<;>first|replace h2:=not_t h2|replace h2:=not_f h2
            · rw [hF, hE, if_pos h2, put_id' hT] at hK
              repeat first|(apply x1;apply r0;apply r0)|apply w4|apply w6|apply w7|apply wd|apply w5|apply we
              exact rt1 (H' := H) rfl rfl (.refl _) (by repeat first|exact s0|(apply su1;assumption)) hK
            have h2' : ov = 0 := h2
            rw [hF, hE, if_neg (fun z => z h2'), if_neg g6', if_pos h1'] at hK
            repeat first|(apply x1;apply r0;apply r0)|(apply x2;apply r0;(apply q0);apply r0)|(apply x9;apply r0)|apply w7|apply wa|apply w5
            refine cut_c (p := T.placeOf q.1) hg (by with_reducible repeat first|assumption|apply gp|exact n2 ‹_› ‹_›) ?_
            rw [show (T.placeOf q.1).f = q.1 from rfl]
            have hU := good_cut hg q.1.dir q.1.name
            generalize T.cut q.1.dir q.1.name = U at hK hU ⊢
            unfold Tab.moveF Tab.into at hK
            repeat first|(apply x1;apply r0;apply r0)|(apply x2;apply r0;(with_reducible repeat first|assumption|apply q0|apply q3|exact n4 ‹_› ‹_›);apply r0)|(apply x9;apply r0)|apply w4|apply w6|apply w7|apply w5
            refine cut_c (p := T.placeOf p.1) hU (by apply ps) ?_
            rw [show (T.placeOf p.1).f = p.1 from rfl]
            have hV := good_cut hU p.1.dir p.1.name
            generalize U.cut p.1.dir p.1.name = V at hK hV ⊢
            repeat first|(apply x1;apply r0;apply r0)|(apply x2;apply r0;(with_reducible repeat first|apply q0|apply q3|exact n4 ‹_› ‹_›);apply r0)|(apply x9;apply r0)|apply w4|apply w6|apply w7|apply w5
            refine tget_c hV.wf (by apply q0) ?_
            rw [show (T.placeOf q.1).f.dir = q.1.dir from rfl]
            have hd := at_few hV q.1.dir
            generalize V.at q.1.dir = d at hK hd ⊢
            repeat (apply x1;apply r0;apply r0)
            refine s_alloc tk rfl rfl rfl (fun b15 hb15 => ?_); have hb := hb15; (try simp only [put_none_iff, prot_none_iff] at hb); (repeat obtain ⟨_, _, hb⟩ := hb)
            repeat first|(apply gO;first|(apply x1;apply r0;apply r0)|(apply x2;apply r0;(with_reducible repeat first|assumption|apply q0|apply ps|apply q3|exact n4 ‹_› ‹_›);apply r0)|(apply xst;apply r0;(with_reducible repeat first|assumption|apply q0|apply ps|apply q3|exact n4 ‹_› ‹_›);apply r0)|(apply x9;apply r0)|apply w4)|(apply gW;first|apply w6|apply w7)|apply w5
            refine nwith_c hd.small hn1 ?_
            rw [show (T.placeOf q.1).f.name = q.1.name from rfl, show (T.placeOf p.1).f.node = p.1.node from rfl]
            have hws := (withN_sizes hd (name := q.1.name) hn2 p.1.node).1
            generalize d.withE q.1.name p.1.node = ze at hK ⊢
            generalize d.withN q.1.name p.1.node = zn at hK hws ⊢
            repeat first|(apply x1;apply r0;apply r0)|(apply xst;apply r0;(apply ps);apply r0)|apply w4|apply w6|apply w7|apply w5
            refine aw_cond rfl (fun z1 => ?_) (fun z1 => ?_)<;>first|replace z1:=of_decide_eq_true z1|replace z1:=of_decide_eq_false z1
            · rw [if_pos z1] at hK
              repeat first|(apply x1;apply r0;apply r0)|(apply x2;apply r0;(with_reducible repeat first|assumption|apply q0|apply q3|exact n4 ‹_› ‹_›);apply r0)|(apply x9;apply r0)|apply w7
              refine put2_c hV.wf (n := zn) hws (by with_reducible repeat first|assumption|apply ps|apply gp) ?_
              rw [show (T.placeOf q.1).f.dir = q.1.dir from rfl]
              have hW := good_putE hV q.1.dir zn
              generalize V.putE q.1.dir zn = W at hK hW ⊢
              repeat first|(apply x1;apply r0;apply r0)|(apply x2;apply r0;(with_reducible repeat first|assumption|apply q0|apply q3|exact n4 ‹_› ‹_›);apply r0)|(apply x9;apply r0)|apply w4|apply w6|apply w7|apply w5
              refine free_c hW hop (by apply ps) ?_
              rw [show (T.placeOf q.1).f.node = q.1.node from rfl]
              repeat first|(apply x1;apply r0;apply r0)|apply w4|apply w6|apply w7|apply wd|apply w5
              exact rt1 (H' := H.put t (.cells (encTab (W.1.freeN q.1.node op).1))) rfl rfl (.refl _) (by repeat first|exact s1|(apply su2;assumption)|apply put_sub'|apply del_sub1) hK
            · rw [if_neg z1] at hK
              repeat first|(apply x1;apply r0;apply r0)|(apply x2;apply r0;(with_reducible repeat first|assumption|apply q0|apply q3|exact n4 ‹_› ‹_›);apply r0)|(apply x9;apply r0)|apply w6|apply w7|apply wa|apply w5
              refine free_c hV hop (by with_reducible repeat first|assumption|apply ps|apply gp) ?_
              rw [show (T.placeOf q.1).f.node = q.1.node from rfl]
              repeat first|(apply x1;apply r0;apply r0)|apply w4|apply w6|apply w7|apply wd|apply w5
              exact rt1 (H' := H.put t (.cells (encTab (V.freeN q.1.node op).1))) rfl rfl (.refl _) (by repeat first|exact s1|(apply su2;assumption)|apply put_sub'|apply del_sub1) hK
          · have h1' : ¬ ¬ q.1.node = 0 := fun z => z h1
            rw [if_neg h1'] at hE
            rw [hF, hE, if_neg (fun z => z rfl), if_neg g6', if_neg h1'] at hK
            obtain ⟨U, hUT⟩ : ∃ U, U = T := ⟨T, rfl⟩
            have hU : U.good := by rw [hUT]; exact hg
            rw [show T.moveF p.1 q.1 op = U.moveF p.1 q.1 op by rw [hUT]] at hK
            have hTU : H t = some (.cells (encTab U)) := by rw [hUT]; exact hT
            unfold Tab.moveF Tab.into at hK
            repeat first|(apply x1;apply r0;apply r0)|(apply x2;apply r0;(with_reducible repeat first|assumption|apply q0|apply q3);apply r0)|(apply x9;apply r0)|apply w6|apply w7|apply wa|apply w5
            refine cut_c (p := T.placeOf p.1) hU (by with_reducible repeat first|assumption|apply gp|exact n2 ‹_› ‹_›) ?_
            rw [show (T.placeOf p.1).f = p.1 from rfl]
            have hV := good_cut hU p.1.dir p.1.name
            generalize U.cut p.1.dir p.1.name = V at hK hV ⊢
            repeat first|(apply x1;apply r0;apply r0)|(apply x2;apply r0;(with_reducible repeat first|apply q0|apply q3|exact n4 ‹_› ‹_›);apply r0)|(apply x9;apply r0)|apply w4|apply w6|apply w7|apply w5
            refine tget_c hV.wf (by apply q0) ?_
            rw [show (T.placeOf q.1).f.dir = q.1.dir from rfl]
            have hd := at_few hV q.1.dir
            generalize V.at q.1.dir = d at hK hd ⊢
            repeat (apply x1;apply r0;apply r0)
            refine s_alloc tk rfl rfl rfl (fun b15 hb15 => ?_); have hb := hb15; (try simp only [put_none_iff, prot_none_iff] at hb); (repeat obtain ⟨_, _, hb⟩ := hb)
            repeat first|(apply gO;first|(apply x1;apply r0;apply r0)|(apply x2;apply r0;(with_reducible repeat first|assumption|apply q0|apply ps|apply q3|exact n4 ‹_› ‹_›);apply r0)|(apply xst;apply r0;(with_reducible repeat first|assumption|apply q0|apply ps|apply q3|exact n4 ‹_› ‹_›);apply r0)|(apply x9;apply r0)|apply w4)|(apply gW;first|apply w6|apply w7)|apply w5
            refine nwith_c hd.small hn1 ?_
            rw [show (T.placeOf q.1).f.name = q.1.name from rfl, show (T.placeOf p.1).f.node = p.1.node from rfl]
            have hws := (withN_sizes hd (name := q.1.name) hn2 p.1.node).1
            generalize d.withE q.1.name p.1.node = ze at hK ⊢
            generalize d.withN q.1.name p.1.node = zn at hK hws ⊢
            repeat first|(apply x1;apply r0;apply r0)|(apply xst;apply r0;(apply ps);apply r0)|apply w4|apply w6|apply w7|apply w5
            refine aw_cond rfl (fun z1 => ?_) (fun z1 => ?_)<;>first|replace z1:=of_decide_eq_true z1|replace z1:=of_decide_eq_false z1
            · rw [if_pos z1] at hK
              repeat first|(apply x1;apply r0;apply r0)|(apply x2;apply r0;(with_reducible repeat first|assumption|apply q0|apply q3|exact n4 ‹_› ‹_›);apply r0)|(apply x9;apply r0)|apply w7
              refine put2_c hV.wf (n := zn) hws (by with_reducible repeat first|assumption|apply ps|apply gp) ?_
              rw [show (T.placeOf q.1).f.dir = q.1.dir from rfl]
              have hW := good_putE hV q.1.dir zn
              generalize V.putE q.1.dir zn = W at hK hW ⊢
              repeat first|(apply x1;apply r0;apply r0)|(apply x2;apply r0;(with_reducible repeat first|assumption|apply q0|apply q3|exact n4 ‹_› ‹_›);apply r0)|(apply x9;apply r0)|apply w4|apply w6|apply w7|apply w5
              refine free_c hW hop (by apply ps) ?_
              rw [show (T.placeOf q.1).f.node = q.1.node from rfl]
              repeat first|(apply x1;apply r0;apply r0)|apply w4|apply w6|apply w7|apply wd|apply w5
              exact rt1 (H' := H.put t (.cells (encTab (W.1.freeN q.1.node op).1))) rfl rfl (.refl _) (by repeat first|exact s1|(apply su2;assumption)|apply put_sub'|apply del_sub1) hK
            · rw [if_neg z1] at hK
              repeat first|(apply x1;apply r0;apply r0)|(apply x2;apply r0;(with_reducible repeat first|assumption|apply q0|apply q3|exact n4 ‹_› ‹_›);apply r0)|(apply x9;apply r0)|apply w6|apply w7|apply wa|apply w5
              refine free_c hV hop (by with_reducible repeat first|assumption|apply ps|apply gp) ?_
              rw [show (T.placeOf q.1).f.node = q.1.node from rfl]
              repeat first|(apply x1;apply r0;apply r0)|apply w4|apply w6|apply w7|apply wd|apply w5
              exact rt1 (H' := H.put t (.cells (encTab (V.freeN q.1.node op).1))) rfl rfl (.refl _) (by repeat first|exact s1|(apply su2;assumption)|apply put_sub'|apply del_sub1) hK
        · rw [decide_eq_false k3, Bool.not_false, Bool.true_and] at hE
          refine s_gsplit rfl rfl (fun v2 => ?_) (fun v2 => ?_)<;>first|replace v2:=not_t v2|replace v2:=not_f v2
          case refine_2 => exact absurd v2 k3
          repeat first|(apply x1;apply r0;apply r0)|(apply x2;apply r0;(apply q0);apply r0)|(apply x5;apply r0)|apply w4|apply w5
          refine aw_cond rfl (fun v3 => ?_) (fun v3 => ?_)<;>first|replace v3:=of_decide_eq_true v3|replace v3:=of_decide_eq_false v3
          · have v3' : 8 ≤ (((T.at q.1.dir).ents.map encEnt).length : Int) := v3
            rw [hle] at v3'
            rw [if_pos (decide_eq_true v3')] at hE
            rw [hF, hE, if_pos (show ¬ (28 : Int) = 0 by decide), put_id' hT] at hK
            repeat first|(apply gO;first|(apply x1;apply r0;apply r0)|apply w4)|(apply gW;first|apply w6|apply w7|apply wd)|apply w5|apply we|apply wj
            exact rt1 (H' := H) rfl rfl (.refl _) (by repeat first|exact s0|(apply su1;assumption)) hK
          have v3' : ¬ 8 ≤ (((T.at q.1.dir).ents.map encEnt).length : Int) := v3
          rw [hle] at v3'
          rw [if_neg (by rw [decide_eq_false v3']; decide)] at hE
          repeat first|(apply gO;first|(apply x1;apply r0;apply r0)|(apply x2;apply r0;(apply q0);apply r0)|apply w4)|(apply gW;first|apply w6|apply w7|apply wa)|apply w5|apply wg
          refine aw_cond rfl (fun h1 => ?_) (fun h1 => ?_)<;>first|replace h1:=not_t h1|replace h1:=not_f h1
          · have h1' : ¬ q.1.node = 0 := h1
            rw [if_pos h1'] at hE
            repeat first|(apply x2;apply r0;(with_reducible repeat first|assumption|apply q0|apply q3);apply r0)|(apply x9;apply r0)|apply w6|apply w7
            refine over_c ?_
            generalize T.overE c p.1 q.1 = ov at hE ⊢
            repeat first|(apply x1;apply r0;apply r0)|apply w4|apply w6|apply w7|apply w5
            refine aw_cond rfl (fun h2 => ?_) (fun h2 => ?_)<;>first|replace h2:=not_t h2|replace h2:=not_f h2
            · rw [hF, hE, if_pos h2, put_id' hT] at hK
              repeat first|(apply x1;apply r0;apply r0)|apply w4|apply w6|apply w7|apply wd|apply w5|apply we
              exact rt1 (H' := H) rfl rfl (.refl _) (by repeat first|exact s0|(apply su1;assumption)) hK
            have h2' : ov = 0 := h2
            rw [hF, hE, if_neg (fun z => z h2'), if_neg g6', if_pos h1'] at hK
            repeat first|(apply x1;apply r0;apply r0)|(apply x2;apply r0;(apply q0);apply r0)|(apply x9;apply r0)|apply w7|apply wa|apply w5
            refine cut_c (p := T.placeOf q.1) hg (by with_reducible repeat first|assumption|apply gp|exact n2 ‹_› ‹_›) ?_
            rw [show (T.placeOf q.1).f = q.1 from rfl]
            have hU := good_cut hg q.1.dir q.1.name
            generalize T.cut q.1.dir q.1.name = U at hK hU ⊢
            unfold Tab.moveF Tab.into at hK
            repeat first|(apply x1;apply r0;apply r0)|(apply x2;apply r0;(with_reducible repeat first|assumption|apply q0|apply q3|exact n4 ‹_› ‹_›);apply r0)|(apply x9;apply r0)|apply w4|apply w6|apply w7|apply w5
            refine cut_c (p := T.placeOf p.1) hU (by apply ps) ?_
            rw [show (T.placeOf p.1).f = p.1 from rfl]
            have hV := good_cut hU p.1.dir p.1.name
            generalize U.cut p.1.dir p.1.name = V at hK hV ⊢
            repeat first|(apply x1;apply r0;apply r0)|(apply x2;apply r0;(with_reducible repeat first|apply q0|apply q3|exact n4 ‹_› ‹_›);apply r0)|(apply x9;apply r0)|apply w4|apply w6|apply w7|apply w5
            refine tget_c hV.wf (by apply q0) ?_
            rw [show (T.placeOf q.1).f.dir = q.1.dir from rfl]
            have hd := at_few hV q.1.dir
            generalize V.at q.1.dir = d at hK hd ⊢
            repeat (apply x1;apply r0;apply r0)
            refine s_alloc tk rfl rfl rfl (fun b15 hb15 => ?_); have hb := hb15; (try simp only [put_none_iff, prot_none_iff] at hb); (repeat obtain ⟨_, _, hb⟩ := hb)
            repeat first|(apply gO;first|(apply x1;apply r0;apply r0)|(apply x2;apply r0;(with_reducible repeat first|assumption|apply q0|apply ps|apply q3|exact n4 ‹_› ‹_›);apply r0)|(apply xst;apply r0;(with_reducible repeat first|assumption|apply q0|apply ps|apply q3|exact n4 ‹_› ‹_›);apply r0)|(apply x9;apply r0)|apply w4)|(apply gW;first|apply w6|apply w7)|apply w5
            refine nwith_c hd.small hn1 ?_
            rw [show (T.placeOf q.1).f.name = q.1.name from rfl, show (T.placeOf p.1).f.node = p.1.node from rfl]
            have hws := (withN_sizes hd (name := q.1.name) hn2 p.1.node).1
            generalize d.withE q.1.name p.1.node = ze at hK ⊢
            generalize d.withN q.1.name p.1.node = zn at hK hws ⊢
            repeat first|(apply x1;apply r0;apply r0)|(apply xst;apply r0;(apply ps);apply r0)|apply w4|apply w6|apply w7|apply w5
            refine aw_cond rfl (fun z1 => ?_) (fun z1 => ?_)<;>first|replace z1:=of_decide_eq_true z1|replace z1:=of_decide_eq_false z1
            · rw [if_pos z1] at hK
              repeat first|(apply x1;apply r0;apply r0)|(apply x2;apply r0;(with_reducible repeat first|assumption|apply q0|apply q3|exact n4 ‹_› ‹_›);apply r0)|(apply x9;apply r0)|apply w7
              refine put2_c hV.wf (n := zn) hws (by with_reducible repeat first|assumption|apply ps|apply gp) ?_
              rw [show (T.placeOf q.1).f.dir = q.1.dir from rfl]
              have hW := good_putE hV q.1.dir zn
              generalize V.putE q.1.dir zn = W at hK hW ⊢
              repeat first|(apply x1;apply r0;apply r0)|(apply x2;apply r0;(with_reducible repeat first|assumption|apply q0|apply q3|exact n4 ‹_› ‹_›);apply r0)|(apply x9;apply r0)|apply w4|apply w6|apply w7|apply w5
              refine free_c hW hop (by apply ps) ?_
              rw [show (T.placeOf q.1).f.node = q.1.node from rfl]
              repeat first|(apply x1;apply r0;apply r0)|apply w4|apply w6|apply w7|apply wd|apply w5
              exact rt1 (H' := H.put t (.cells (encTab (W.1.freeN q.1.node op).1))) rfl rfl (.refl _) (by repeat first|exact s1|(apply su2;assumption)|apply put_sub'|apply del_sub1) hK
            · rw [if_neg z1] at hK
              repeat first|(apply x1;apply r0;apply r0)|(apply x2;apply r0;(with_reducible repeat first|assumption|apply q0|apply q3|exact n4 ‹_› ‹_›);apply r0)|(apply x9;apply r0)|apply w6|apply w7|apply wa|apply w5
              refine free_c hV hop (by with_reducible repeat first|assumption|apply ps|apply gp) ?_
              rw [show (T.placeOf q.1).f.node = q.1.node from rfl]
              repeat first|(apply x1;apply r0;apply r0)|apply w4|apply w6|apply w7|apply wd|apply w5
              exact rt1 (H' := H.put t (.cells (encTab (V.freeN q.1.node op).1))) rfl rfl (.refl _) (by repeat first|exact s1|(apply su2;assumption)|apply put_sub'|apply del_sub1) hK
          · have h1' : ¬ ¬ q.1.node = 0 := fun z => z h1
            rw [if_neg h1'] at hE
            rw [hF, hE, if_neg (fun z => z rfl), if_neg g6', if_neg h1'] at hK
            obtain ⟨U, hUT⟩ : ∃ U, U = T := ⟨T, rfl⟩
            have hU : U.good := by rw [hUT]; exact hg
            rw [show T.moveF p.1 q.1 op = U.moveF p.1 q.1 op by rw [hUT]] at hK
            have hTU : H t = some (.cells (encTab U)) := by rw [hUT]; exact hT
            unfold Tab.moveF Tab.into at hK
            repeat first|(apply x1;apply r0;apply r0)|(apply x2;apply r0;(with_reducible repeat first|assumption|apply q0|apply q3);apply r0)|(apply x9;apply r0)|apply w6|apply w7|apply wa|apply w5
            refine cut_c (p := T.placeOf p.1) hU (by with_reducible repeat first|assumption|apply gp|exact n2 ‹_› ‹_›) ?_
            rw [show (T.placeOf p.1).f = p.1 from rfl]
            have hV := good_cut hU p.1.dir p.1.name
            generalize U.cut p.1.dir p.1.name = V at hK hV ⊢
            repeat first|(apply x1;apply r0;apply r0)|(apply x2;apply r0;(with_reducible repeat first|apply q0|apply q3|exact n4 ‹_› ‹_›);apply r0)|(apply x9;apply r0)|apply w4|apply w6|apply w7|apply w5
            refine tget_c hV.wf (by apply q0) ?_
            rw [show (T.placeOf q.1).f.dir = q.1.dir from rfl]
            have hd := at_few hV q.1.dir
            generalize V.at q.1.dir = d at hK hd ⊢
            repeat (apply x1;apply r0;apply r0)
            refine s_alloc tk rfl rfl rfl (fun b15 hb15 => ?_); have hb := hb15; (try simp only [put_none_iff, prot_none_iff] at hb); (repeat obtain ⟨_, _, hb⟩ := hb)
            repeat first|(apply gO;first|(apply x1;apply r0;apply r0)|(apply x2;apply r0;(with_reducible repeat first|assumption|apply q0|apply ps|apply q3|exact n4 ‹_› ‹_›);apply r0)|(apply xst;apply r0;(with_reducible repeat first|assumption|apply q0|apply ps|apply q3|exact n4 ‹_› ‹_›);apply r0)|(apply x9;apply r0)|apply w4)|(apply gW;first|apply w6|apply w7)|apply w5
            refine nwith_c hd.small hn1 ?_
            rw [show (T.placeOf q.1).f.name = q.1.name from rfl, show (T.placeOf p.1).f.node = p.1.node from rfl]
            have hws := (withN_sizes hd (name := q.1.name) hn2 p.1.node).1
            generalize d.withE q.1.name p.1.node = ze at hK ⊢
            generalize d.withN q.1.name p.1.node = zn at hK hws ⊢
            repeat first|(apply x1;apply r0;apply r0)|(apply xst;apply r0;(apply ps);apply r0)|apply w4|apply w6|apply w7|apply w5
            refine aw_cond rfl (fun z1 => ?_) (fun z1 => ?_)<;>first|replace z1:=of_decide_eq_true z1|replace z1:=of_decide_eq_false z1
            · rw [if_pos z1] at hK
              repeat first|(apply x1;apply r0;apply r0)|(apply x2;apply r0;(with_reducible repeat first|assumption|apply q0|apply q3|exact n4 ‹_› ‹_›);apply r0)|(apply x9;apply r0)|apply w7
              refine put2_c hV.wf (n := zn) hws (by with_reducible repeat first|assumption|apply ps|apply gp) ?_
              rw [show (T.placeOf q.1).f.dir = q.1.dir from rfl]
              have hW := good_putE hV q.1.dir zn
              generalize V.putE q.1.dir zn = W at hK hW ⊢
              repeat first|(apply x1;apply r0;apply r0)|(apply x2;apply r0;(with_reducible repeat first|assumption|apply q0|apply q3|exact n4 ‹_› ‹_›);apply r0)|(apply x9;apply r0)|apply w4|apply w6|apply w7|apply w5
              refine free_c hW hop (by apply ps) ?_
              rw [show (T.placeOf q.1).f.node = q.1.node from rfl]
              repeat first|(apply x1;apply r0;apply r0)|apply w4|apply w6|apply w7|apply wd|apply w5
              exact rt1 (H' := H.put t (.cells (encTab (W.1.freeN q.1.node op).1))) rfl rfl (.refl _) (by repeat first|exact s1|(apply su2;assumption)|apply put_sub'|apply del_sub1) hK
            · rw [if_neg z1] at hK
              repeat first|(apply x1;apply r0;apply r0)|(apply x2;apply r0;(with_reducible repeat first|assumption|apply q0|apply q3|exact n4 ‹_› ‹_›);apply r0)|(apply x9;apply r0)|apply w6|apply w7|apply wa|apply w5
              refine free_c hV hop (by with_reducible repeat first|assumption|apply ps|apply gp) ?_
              rw [show (T.placeOf q.1).f.node = q.1.node from rfl]
              repeat first|(apply x1;apply r0;apply r0)|apply w4|apply w6|apply w7|apply wd|apply w5
              exact rt1 (H' := H.put t (.cells (encTab (V.freeN q.1.node op).1))) rfl rfl (.refl _) (by repeat first|exact s1|(apply su2;assumption)|apply put_sub'|apply del_sub1) hK
      · rw [decide_eq_false k2, Bool.false_and, if_neg (by decide)] at hE
        refine s_gsplit rfl rfl (fun v1 => ?_) (fun v1 => ?_)<;>first|replace v1:=of_decide_eq_true v1|replace v1:=of_decide_eq_false v1
        · exact absurd v1 k2
        repeat first|(apply gO;first|(apply x1;apply r0;apply r0)|(apply x2;apply r0;(apply q0);apply r0)|apply w4|(apply w3;apply r0;apply r0))|(apply gW;first|apply w6|apply w7|(apply w9;apply r0)|apply wa)|apply w5|apply wg
        skip
        refine aw_cond rfl (fun h1 => ?_) (fun h1 => ?_)<;>first|replace h1:=not_t h1|replace h1:=not_f h1
        · have h1' : ¬ q.1.node = 0 := h1
          rw [if_pos h1'] at hE
          repeat first|(apply x2;apply r0;(with_reducible repeat first|assumption|apply q0|apply q3);apply r0)|(apply x9;apply r0)|apply w6|apply w7
          refine over_c ?_
          generalize T.overE c p.1 q.1 = ov at hE ⊢
          repeat first|(apply x1;apply r0;apply r0)|apply w4|apply w6|apply w7|apply w5
          refine aw_cond rfl (fun h2 => ?_) (fun h2 => ?_)<;>first|replace h2:=not_t h2|replace h2:=not_f h2
          · rw [hF, hE, if_pos h2, put_id' hT] at hK
            repeat first|(apply x1;apply r0;apply r0)|apply w4|apply w6|apply w7|apply wd|apply w5|apply we
            exact rt1 (H' := H) rfl rfl (.refl _) (by repeat first|exact s0|(apply su1;assumption)) hK
          have h2' : ov = 0 := h2
          rw [hF, hE, if_neg (fun z => z h2'), if_neg g6', if_pos h1'] at hK
          repeat first|(apply x1;apply r0;apply r0)|(apply x2;apply r0;(apply q0);apply r0)|(apply x9;apply r0)|apply w7|apply wa|apply w5
          refine cut_c (p := T.placeOf q.1) hg (by with_reducible repeat first|assumption|apply gp|exact n2 ‹_› ‹_›) ?_
          rw [show (T.placeOf q.1).f = q.1 from rfl]
          have hU := good_cut hg q.1.dir q.1.name
          generalize T.cut q.1.dir q.1.name = U at hK hU ⊢
          unfold Tab.moveF Tab.into at hK
          repeat first|(apply x1;apply r0;apply r0)|(apply x2;apply r0;(with_reducible repeat first|assumption|apply q0|apply q3|exact n4 ‹_› ‹_›);apply r0)|(apply x9;apply r0)|apply w4|apply w6|apply w7|apply w5
          refine cut_c (p := T.placeOf p.1) hU (by apply ps) ?_
          rw [show (T.placeOf p.1).f = p.1 from rfl]
          have hV := good_cut hU p.1.dir p.1.name
          generalize U.cut p.1.dir p.1.name = V at hK hV ⊢
          repeat first|(apply x1;apply r0;apply r0)|(apply x2;apply r0;(with_reducible repeat first|apply q0|apply q3|exact n4 ‹_› ‹_›);apply r0)|(apply x9;apply r0)|apply w4|apply w6|apply w7|apply w5
          refine tget_c hV.wf (by apply q0) ?_
          rw [show (T.placeOf q.1).f.dir = q.1.dir from rfl]
          have hd := at_few hV q.1.dir
          generalize V.at q.1.dir = d at hK hd ⊢
          repeat (apply x1;apply r0;apply r0)
          refine s_alloc tk rfl rfl rfl (fun b15 hb15 => ?_); have hb := hb15; (try simp only [put_none_iff, prot_none_iff] at hb); (repeat obtain ⟨_, _, hb⟩ := hb)
          repeat first|(apply gO;first|(apply x1;apply r0;apply r0)|(apply x2;apply r0;(with_reducible repeat first|assumption|apply q0|apply ps|apply q3|exact n4 ‹_› ‹_›);apply r0)|(apply xst;apply r0;(with_reducible repeat first|assumption|apply q0|apply ps|apply q3|exact n4 ‹_› ‹_›);apply r0)|(apply x9;apply r0)|apply w4)|(apply gW;first|apply w6|apply w7)|apply w5
          refine nwith_c hd.small hn1 ?_
          rw [show (T.placeOf q.1).f.name = q.1.name from rfl, show (T.placeOf p.1).f.node = p.1.node from rfl]
          have hws := (withN_sizes hd (name := q.1.name) hn2 p.1.node).1
          generalize d.withE q.1.name p.1.node = ze at hK ⊢
          generalize d.withN q.1.name p.1.node = zn at hK hws ⊢
          repeat first|(apply x1;apply r0;apply r0)|(apply xst;apply r0;(apply ps);apply r0)|apply w4|apply w6|apply w7|apply w5
          refine aw_cond rfl (fun z1 => ?_) (fun z1 => ?_)<;>first|replace z1:=of_decide_eq_true z1|replace z1:=of_decide_eq_false z1
          · rw [if_pos z1] at hK
            repeat first|(apply x1;apply r0;apply r0)|(apply x2;apply r0;(with_reducible repeat first|assumption|apply q0|apply q3|exact n4 ‹_› ‹_›);apply r0)|(apply x9;apply r0)|apply w7
            refine put2_c hV.wf (n := zn) hws (by with_reducible repeat first|assumption|apply ps|apply gp) ?_
            rw [show (T.placeOf q.1).f.dir = q.1.dir from rfl]
            have hW := good_putE hV q.1.dir zn
            generalize V.putE q.1.dir zn = W at hK hW ⊢
            repeat first|(apply x1;apply r0;apply r0)|(apply x2;apply r0;(with_reducible repeat first|assumption|apply q0|apply q3|exact n4 ‹_› ‹_›);apply r0)|(apply x9;apply r0)|apply w4|apply w6|apply w7|apply w5
            refine free_c hW hop (by apply ps) ?_
            rw [show (T.placeOf q.1).f.node = q.1.node from rfl]
            repeat first|(apply x1;apply r0;apply r0)|apply w4|apply w6|apply w7|apply wd|apply w5
            exact rt1 (H' := H.put t (.cells (encTab (W.1.freeN q.1.node op).1))) rfl rfl (.refl _) (by repeat first|exact s1|(apply su2;assumption)|apply put_sub'|apply del_sub1) hK
          · rw [if_neg z1] at hK
            repeat first|(apply x1;apply r0;apply r0)|(apply x2;apply r0;(with_reducible repeat first|assumption|apply q0|apply q3|exact n4 ‹_› ‹_›);apply r0)|(apply x9;apply r0)|apply w6|apply w7|apply wa|apply w5
            refine free_c hV hop (by with_reducible repeat first|assumption|apply ps|apply gp) ?_
            rw [show (T.placeOf q.1).f.node = q.1.node from rfl]
            repeat first|(apply x1;apply r0;apply r0)|apply w4|apply w6|apply w7|apply wd|apply w5
            exact rt1 (H' := H.put t (.cells (encTab (V.freeN q.1.node op).1))) rfl rfl (.refl _) (by repeat first|exact s1|(apply su2;assumption)|apply put_sub'|apply del_sub1) hK
        · have h1' : ¬ ¬ q.1.node = 0 := fun z => z h1
          rw [if_neg h1'] at hE
          rw [hF, hE, if_neg (fun z => z rfl), if_neg g6', if_neg h1'] at hK
          obtain ⟨U, hUT⟩ : ∃ U, U = T := ⟨T, rfl⟩
          have hU : U.good := by rw [hUT]; exact hg
          rw [show T.moveF p.1 q.1 op = U.moveF p.1 q.1 op by rw [hUT]] at hK
          have hTU : H t = some (.cells (encTab U)) := by rw [hUT]; exact hT
          unfold Tab.moveF Tab.into at hK
          repeat first|(apply x1;apply r0;apply r0)|(apply x2;apply r0;(with_reducible repeat first|assumption|apply q0|apply q3);apply r0)|(apply x9;apply r0)|apply w6|apply w7|apply wa|apply w5
          refine cut_c (p := T.placeOf p.1) hU (by with_reducible repeat first|assumption|apply gp|exact n2 ‹_› ‹_›) ?_
          rw [show (T.placeOf p.1).f = p.1 from rfl]
          have hV := good_cut hU p.1.dir p.1.name
          generalize U.cut p.1.dir p.1.name = V at hK hV ⊢
          repeat first|(apply x1;apply r0;apply r0)|(apply x2;apply r0;(with_reducible repeat first|apply q0|apply q3|exact n4 ‹_› ‹_›);apply r0)|(apply x9;apply r0)|apply w4|apply w6|apply w7|apply w5
          refine tget_c hV.wf (by apply q0) ?_
          rw [show (T.placeOf q.1).f.dir = q.1.dir from rfl]
          have hd := at_few hV q.1.dir
          generalize V.at q.1.dir = d at hK hd ⊢
          repeat (apply x1;apply r0;apply r0)
          refine s_alloc tk rfl rfl rfl (fun b15 hb15 => ?_); have hb := hb15; (try simp only [put_none_iff, prot_none_iff] at hb); (repeat obtain ⟨_, _, hb⟩ := hb)
          repeat first|(apply gO;first|(apply x1;apply r0;apply r0)|(apply x2;apply r0;(with_reducible repeat first|assumption|apply q0|apply ps|apply q3|exact n4 ‹_› ‹_›);apply r0)|(apply xst;apply r0;(with_reducible repeat first|assumption|apply q0|apply ps|apply q3|exact n4 ‹_› ‹_›);apply r0)|(apply x9;apply r0)|apply w4)|(apply gW;first|apply w6|apply w7)|apply w5
          refine nwith_c hd.small hn1 ?_
          rw [show (T.placeOf q.1).f.name = q.1.name from rfl, show (T.placeOf p.1).f.node = p.1.node from rfl]
          have hws := (withN_sizes hd (name := q.1.name) hn2 p.1.node).1
          generalize d.withE q.1.name p.1.node = ze at hK ⊢
          generalize d.withN q.1.name p.1.node = zn at hK hws ⊢
          repeat first|(apply x1;apply r0;apply r0)|(apply xst;apply r0;(apply ps);apply r0)|apply w4|apply w6|apply w7|apply w5
          refine aw_cond rfl (fun z1 => ?_) (fun z1 => ?_)<;>first|replace z1:=of_decide_eq_true z1|replace z1:=of_decide_eq_false z1
          · rw [if_pos z1] at hK
            repeat first|(apply x1;apply r0;apply r0)|(apply x2;apply r0;(with_reducible repeat first|assumption|apply q0|apply q3|exact n4 ‹_› ‹_›);apply r0)|(apply x9;apply r0)|apply w7
            refine put2_c hV.wf (n := zn) hws (by with_reducible repeat first|assumption|apply ps|apply gp) ?_
            rw [show (T.placeOf q.1).f.dir = q.1.dir from rfl]
            have hW := good_putE hV q.1.dir zn
            generalize V.putE q.1.dir zn = W at hK hW ⊢
            repeat first|(apply x1;apply r0;apply r0)|(apply x2;apply r0;(with_reducible repeat first|assumption|apply q0|apply q3|exact n4 ‹_› ‹_›);apply r0)|(apply x9;apply r0)|apply w4|apply w6|apply w7|apply w5
            refine free_c hW hop (by apply ps) ?_
            rw [show (T.placeOf q.1).f.node = q.1.node from rfl]
            repeat first|(apply x1;apply r0;apply r0)|apply w4|apply w6|apply w7|apply wd|apply w5
            exact rt1 (H' := H.put t (.cells (encTab (W.1.freeN q.1.node op).1))) rfl rfl (.refl _) (by repeat first|exact s1|(apply su2;assumption)|apply put_sub'|apply del_sub1) hK
          · rw [if_neg z1] at hK
            repeat first|(apply x1;apply r0;apply r0)|(apply x2;apply r0;(with_reducible repeat first|assumption|apply q0|apply q3|exact n4 ‹_› ‹_›);apply r0)|(apply x9;apply r0)|apply w6|apply w7|apply wa|apply w5
            refine free_c hV hop (by with_reducible repeat first|assumption|apply ps|apply gp) ?_
            rw [show (T.placeOf q.1).f.node = q.1.node from rfl]
            repeat first|(apply x1;apply r0;apply r0)|apply w4|apply w6|apply w7|apply wd|apply w5
            exact rt1 (H' := H.put t (.cells (encTab (V.freeN q.1.node op).1))) rfl rfl (.refl _) (by repeat first|exact s1|(apply su2;assumption)|apply put_sub'|apply del_sub1) hK
end Abs
end Go.Proofs.Ytpmnfbgnlanpoaa
