import Derived.Test.YtpmnfbgnlanpoaaGreatGH
set_option linter.unusedVariables false
namespace Go.Proofs.YtpmnfbgnlanpoaaGreat
namespace Abs
set_option linter.unusedSimpArgs false
set_option maxRecDepth 10000
set_option maxHeartbeats 2000000
attribute [local irreducible] AOps AW AP ACalls thenQ inBlk noGoto

/-! ### the document's Rename -/
def Tab.mayE (T : Tab) (c : Cred) (p q : Found) : Int :=
  if q.name = ⟨#[]⟩ then 22 else if T.can c q.dir 3 = false then 13 else if q.node = p.node then 0
  else if (T.at p.node).kind = 2 ∧ T.below 24 q.dir p.node = true then 22 else if q.node = 0 ∧ ¬ q.dir = p.dir ∧ 8 ≤ ((T.at q.dir).ents.length : Int) then 28
  else if ¬ q.node = 0 then T.overE c p q else 0
theorem renameE_may (T : Tab) (c : Cred) (p q : Found × Int) : T.renameE c p q = if ¬ T.pfindE c p = 0 then T.pfindE c p else if ¬ q.2 = 0 then q.2 else T.mayE c p.1 q.1 := rfl
theorem rmay_c {T : Tab} {L : List Node} (ht : Tells T L) {c : Cred} (hc : c.small) {p q : Found} {H : AHeap} {K : AVal → AHeap → Prop} (hK : K (.i (T.mayE c p q)) H) :
    ACalls Tryz.prog 47 [.agg (encT L), .agg (encCred c), .i p.node, .i p.dir, .agg (encF q)] H K := by
  refine acalls_body Tryz.func47 rfl rfl rfl ?_
  have hll := ht.len
  have hnl := names_len (T.at q.dir).ents
  unfold Tab.mayE at hK
  repeat first|apply w6|apply w7
  refine s_box rfl rfl rfl (fun b5 hb5 => ?_); have hb := hb5; (try simp only [put_none_iff, prot_none_iff] at hb); (repeat obtain ⟨_, _, hb⟩ := hb)
  skip
  refine s_box rfl rfl rfl (fun b6 hb6 => ?_); have hb := hb6; (try simp only [put_none_iff, prot_none_iff] at hb); (repeat obtain ⟨_, _, hb⟩ := hb)
  skip
  refine s_box rfl rfl rfl (fun b9 hb9 => ?_); have hb := hb9; (try simp only [put_none_iff, prot_none_iff] at hb); (repeat obtain ⟨_, _, hb⟩ := hb)
  repeat first|(apply x1;apply r0;apply r0)|(apply x2;apply r0;(apply q0);apply r0)|apply w4|apply w6|apply w7|apply w5
  refine aw_cond rfl (fun g3 => ?_) (fun g3 => ?_)<;>first|replace g3:=of_decide_eq_true g3|replace g3:=of_decide_eq_false g3
  · rw [if_pos g3] at hK
    repeat first|(apply x1;apply r0;apply r0)|apply w4|apply w6|apply w7|apply wd|apply w5|apply we
    exact rt1 (H' := H) rfl rfl (.refl _) (by repeat first|exact s0|(apply su1;assumption)) hK
  rw [if_neg g3] at hK
  repeat first|(apply x1;apply r0;apply r0)|(apply x2;apply r0;(with_reducible repeat first|assumption|apply q0|apply q3);apply r0)|(apply x9;apply r0)|apply w6|apply w7|apply wa|apply w5
  refine rcan1_c ht hc ⟨by decide, by decide⟩ ?_
  cases hcan : T.can c q.dir 3 with
  | false =>
    rw [hcan, if_pos rfl] at hK
    repeat first|(apply gO;first|(apply x1;apply r0;apply r0)|apply w4)|(apply gW;first|apply w6|apply w7|(apply w8;apply r0)|apply wd)|apply w5|apply we
    exact rt1 (H' := H) rfl rfl (.refl _) (by repeat first|exact s0|(apply su1;assumption)) hK
  | true =>
    rw [hcan, if_neg (by decide)] at hK
    repeat first|(apply gO;first|(apply x1;apply r0;apply r0)|(apply x2;apply r0;(apply q0);apply r0)|apply w4)|(apply gW;first|apply w6|apply w7|(apply w9;apply r0)|apply wa)|apply w5
    refine aw_cond rfl (fun g4 => ?_) (fun g4 => ?_)<;>first|replace g4:=of_decide_eq_true g4|replace g4:=of_decide_eq_false g4
    · rw [if_pos g4] at hK
      repeat first|(apply x1;apply r0;apply r0)|apply w4|apply w6|apply w7|apply wd|apply w5|apply we
      exact rt1 (H' := H) rfl rfl (.refl _) (by repeat first|exact s0|(apply su1;assumption)) hK
    rw [if_neg g4] at hK
    repeat first|(apply x1;apply r0;apply r0)|(apply x2;apply r0;(with_reducible repeat first|assumption|apply q0|apply q3);apply r0)|(apply x9;apply r0)|apply w6|apply w7|apply wa|apply w5
    refine rget_c hll ?_
    rw [ht.get]
    skip
    refine s_alloc tk rfl rfl rfl (fun b12 hb12 => ?_); have hb := hb12; (try simp only [put_none_iff, prot_none_iff] at hb); (repeat obtain ⟨_, _, hb⟩ := hb)
    repeat first|(apply x1;apply r0;apply r0)|(apply x2;apply r0;(with_reducible repeat first|apply q0|apply ps);apply r0)|(apply xst;apply r0;(with_reducible repeat first|apply q0|apply ps);apply r0)|apply w4|apply w6|apply w7|apply w5
    by_cases k1 : (T.at p.node).kind = 2
    · refine s_gsplit rfl rfl (fun g7 => ?_) (fun g7 => ?_)<;>first|replace g7:=of_decide_eq_true g7|replace g7:=of_decide_eq_false g7
      case refine_2 => exact absurd k1 g7
      repeat first|(apply x1;apply r0;apply r0)|(apply x2;apply r0;(with_reducible repeat first|assumption|apply q0|apply q3);apply r0)|(apply x5;apply r0)|(apply x9;apply r0)
      refine rbelow_c ht ?_
      cases hb : T.below 24 q.dir p.node with
      | true =>
        rw [hb, if_pos ⟨k1, rfl⟩] at hK
        repeat first|(apply gO;first|(apply x1;apply r0;apply r0)|apply w4)|(apply gW;first|apply w6|apply w7|(apply w8;apply r0)|apply wd)|apply w5|apply we
        exact rt1 (H' := H) rfl rfl (.refl _) (by repeat first|exact s0|(apply su1;assumption)) hK
      | false =>
        rw [hb, if_neg (fun z => by cases z.2)] at hK
        by_cases k9 : q.node = 0
        · have hne0 : ¬ ¬ q.node = 0 := fun z => z k9
          rw [if_neg hne0] at hK
          repeat first|(apply gO;first|(apply x1;apply r0;apply r0)|(apply x2;apply r0;(with_reducible repeat first|assumption|apply q0|apply q3);apply r0)|apply w4)|(apply gW;first|apply w6|apply w7|(apply w9;apply r0)|apply wa)|apply w5
          refine aw_cond rfl (fun s5 => ?_) (fun s5 => ?_)<;>first|replace s5:=of_decide_eq_true s5|replace s5:=of_decide_eq_false s5
          case refine_2 => exact absurd k9 s5
          by_cases k10 : q.dir = p.dir
          · rw [if_neg (fun z => z.2.1 k10)] at hK
            repeat first|(apply x1;apply r0;apply r0)|(apply x2;apply r0;(with_reducible repeat first|assumption|apply q0|apply q3);apply r0)|apply w6|apply w7
            refine s_gsplit rfl rfl (fun s6 => ?_) (fun s6 => ?_)<;>first|replace s6:=not_t s6|replace s6:=not_f s6
            · exact absurd k10 s6
            repeat first|(apply gO;first|(apply x1;apply r0;apply r0)|apply w4|(apply w3;apply r0;apply r0))|(apply gW;first|apply w6|apply w7|(apply w9;apply r0)|apply wa|apply wd)|apply w5|apply we
            exact rt1 (H' := H) rfl rfl (.refl _) (by repeat first|exact s0|(apply su1;assumption)) hK
          · repeat first|(apply x1;apply r0;apply r0)|(apply x2;apply r0;(with_reducible repeat first|assumption|apply q0|apply q3);apply r0)|apply w6|apply w7
            refine s_gsplit rfl rfl (fun s6 => ?_) (fun s6 => ?_)<;>first|replace s6:=not_t s6|replace s6:=not_f s6
            case refine_2 => exact absurd s6 k10
            repeat first|(apply x1;apply r0;apply r0)|(apply x2;apply r0;(with_reducible repeat first|assumption|apply q0|apply q3);apply r0)|(apply x5;apply r0)|(apply x9;apply r0)
            refine rget_c hll ?_
            rw [ht.get]
            repeat (apply x5;apply r0)
            refine s_field tk rfl rfl rfl rfl rfl rfl ?_
            repeat first|(apply x1;apply r0;apply r0)|(apply x5;apply r0)|apply w4|apply w5
            refine aw_cond rfl (fun s7 => ?_) (fun s7 => ?_)<;>first|replace s7:=of_decide_eq_true s7|replace s7:=of_decide_eq_false s7
            · have s7' : 8 ≤ ((encNames (T.at q.dir).ents).length : Int) := s7
              rw [hnl] at s7'
              rw [if_pos ⟨k9, k10, s7'⟩] at hK
              repeat first|(apply x1;apply r0;apply r0)|apply w4|apply w6|apply w7|apply wd|apply w5|apply we
              exact rt1 (H' := H) rfl rfl (.refl _) (by repeat first|exact s0|(apply su1;assumption)) hK
            have s7' : ¬ 8 ≤ ((encNames (T.at q.dir).ents).length : Int) := s7
            rw [hnl] at s7'
            rw [if_neg (fun z => s7' z.2.2)] at hK
            repeat first|(apply gO;first|(apply x1;apply r0;apply r0)|apply w4)|(apply gW;first|apply w6|apply w7|apply wa|apply wd)|apply w5|apply we
            exact rt1 (H' := H) rfl rfl (.refl _) (by repeat first|exact s0|(apply su1;assumption)) hK
        · rw [if_neg (fun z => k9 z.1)] at hK
          repeat first|(apply gO;first|(apply x1;apply r0;apply r0)|(apply x2;apply r0;(with_reducible repeat first|assumption|apply q0|apply q3);apply r0)|apply w4)|(apply gW;first|apply w6|apply w7|(apply w9;apply r0)|apply wa)|apply w5
          refine aw_cond rfl (fun s5 => ?_) (fun s5 => ?_)<;>first|replace s5:=of_decide_eq_true s5|replace s5:=of_decide_eq_false s5
          · exact absurd s5 k9
          rw [if_pos k9] at hK
          unfold Tab.overE at hK
          repeat first|(apply x2;apply r0;(with_reducible repeat first|assumption|apply q0|apply q3);apply r0)|(apply x9;apply r0)|apply w6|apply w7|apply wa|apply w5
          refine rsticky_c ht ?_
          repeat first|(apply x1;apply r0;apply r0)|(apply x2;apply r0;(with_reducible repeat first|assumption|apply q0|apply q3);apply r0)|(apply x9;apply r0)|apply w4|apply w6|apply w7|apply w5
          refine rget_c hll ?_
          rw [ht.get]
          have hml := names_len (T.at q.node).ents
          skip
          refine s_alloc tk rfl rfl rfl (fun b14 hb14 => ?_); have hb := hb14; (try simp only [put_none_iff, prot_none_iff] at hb); (repeat obtain ⟨_, _, hb⟩ := hb)
          repeat first|(apply x1;apply r0;apply r0)|(apply xst;apply r0;(apply ps);apply r0)|apply w4|apply w6|apply w7|apply w5
          cases hm : T.mayTake c q with
          | false =>
            rw [hm, if_pos rfl] at hK
            repeat first|(apply gO;first|(apply x1;apply r0;apply r0)|apply w4)|(apply gW;first|apply w6|apply w7|(apply w8;apply r0)|apply wd)|apply w5|apply we
            exact rt1 (H' := H) rfl rfl (.refl _) (by repeat first|exact s0|(apply su1;assumption)) hK
          | true =>
            rw [hm, if_neg (by decide)] at hK
            by_cases m1 : (T.at p.node).kind = 2
            · by_cases m2 : (T.at q.node).kind = 2
              · rw [if_neg (fun z => z.2 m2), if_neg (fun z => z.2 m1)] at hK
                repeat first|(apply x1;apply r0;apply r0)|(apply x2;apply r0;(with_reducible repeat first|assumption|apply q0|apply q3);apply r0)|apply w6|apply w7|(apply w9;apply r0)|apply wa|apply w5
                refine s_gsplit rfl rfl (fun e1 => ?_) (fun e1 => ?_)<;>first|replace e1:=of_decide_eq_true e1|replace e1:=of_decide_eq_false e1
                case refine_2 => exact absurd m1 e1
                repeat first|(apply x1;apply r0;apply r0)|(apply x2;apply r0;(apply q0);apply r0)|(apply x5;apply r0)|apply w4|apply w5
                refine aw_cond rfl (fun e2 => ?_) (fun e2 => ?_)<;>first|replace e2:=not_t e2|replace e2:=not_f e2
                · exact absurd m2 e2
                repeat first|(apply x1;apply r0;apply r0)|(apply x2;apply r0;(with_reducible repeat first|assumption|apply q0|apply q3);apply r0)|apply w6|apply w7|apply wa|apply w5
                refine s_gsplit rfl rfl (fun e3 => ?_) (fun e3 => ?_)<;>first|replace e3:=not_t e3|replace e3:=not_f e3
                · exact absurd m1 e3
                repeat first|(apply gO;first|(apply x1;apply r0;apply r0)|(apply x2;apply r0;(apply q0);apply r0)|apply w4|(apply w3;apply r0;apply r0))|(apply gW;first|apply w6|apply w7|(apply w9;apply r0)|apply wa)|apply w5
                refine aw_cond rfl (fun e5 => ?_) (fun e5 => ?_)<;>first|replace e5:=of_decide_eq_true e5|replace e5:=of_decide_eq_false e5
                · have e5' : 0 < ((encNames (T.at q.node).ents).length : Int) := e5
                  rw [hml] at e5'
                  rw [if_pos e5'] at hK
                  repeat first|(apply x1;apply r0;apply r0)|apply w4|apply w6|apply w7|apply wd|apply w5|apply we
                  exact rt1 (H' := H) rfl rfl (.refl _) (by repeat first|exact s0|(apply su1;assumption)) hK
                have e5' : ¬ 0 < ((encNames (T.at q.node).ents).length : Int) := e5
                rw [hml] at e5'
                rw [if_neg e5'] at hK
                repeat first|(apply x1;apply r0;apply r0)|apply w4|apply w6|apply w7|apply wa|apply wd|apply w5
                exact rt1 (H' := H) rfl rfl (.refl _) (by repeat first|exact s0|(apply su1;assumption)) hK
              · rw [if_pos ⟨m1, m2⟩] at hK
                repeat first|(apply x1;apply r0;apply r0)|(apply x2;apply r0;(with_reducible repeat first|assumption|apply q0|apply q3);apply r0)|apply w6|apply w7|(apply w9;apply r0)|apply wa|apply w5
                refine s_gsplit rfl rfl (fun e1 => ?_) (fun e1 => ?_)<;>first|replace e1:=of_decide_eq_true e1|replace e1:=of_decide_eq_false e1
                case refine_2 => exact absurd m1 e1
                repeat first|(apply x1;apply r0;apply r0)|(apply x2;apply r0;(apply q0);apply r0)|(apply x5;apply r0)|apply w4|apply w5
                refine aw_cond rfl (fun e2 => ?_) (fun e2 => ?_)<;>first|replace e2:=not_t e2|replace e2:=not_f e2
                case refine_2 => exact absurd e2 m2
                repeat first|(apply x1;apply r0;apply r0)|apply w4|apply w6|apply w7|apply wd|apply w5|apply we
                exact rt1 (H' := H) rfl rfl (.refl _) (by repeat first|exact s0|(apply su1;assumption)) hK
            · rw [if_neg (fun z => m1 z.1)] at hK
              repeat first|(apply x1;apply r0;apply r0)|(apply x2;apply r0;(with_reducible repeat first|assumption|apply q0|apply q3);apply r0)|apply w6|apply w7|(apply w9;apply r0)|apply wa|apply w5
              refine s_gsplit rfl rfl (fun e1 => ?_) (fun e1 => ?_)<;>first|replace e1:=of_decide_eq_true e1|replace e1:=of_decide_eq_false e1
              · exact absurd e1 m1
              repeat first|(apply gO;first|(apply x1;apply r0;apply r0)|(apply x2;apply r0;(with_reducible repeat first|assumption|apply q0|apply q3);apply r0)|apply w4|(apply w3;apply r0;apply r0))|(apply gW;first|apply w6|apply w7|(apply w9;apply r0)|apply wa)|apply w5
              refine s_gsplit rfl rfl (fun e3 => ?_) (fun e3 => ?_)<;>first|replace e3:=not_t e3|replace e3:=not_f e3
              case refine_2 => exact absurd e3 m1
              repeat first|(apply x1;apply r0;apply r0)|(apply x2;apply r0;(apply q0);apply r0)|(apply x5;apply r0)|apply w4|apply w5
              refine aw_cond rfl (fun e4 => ?_) (fun e4 => ?_)<;>first|replace e4:=of_decide_eq_true e4|replace e4:=of_decide_eq_false e4
              · rw [if_pos ⟨e4, m1⟩] at hK
                repeat first|(apply x1;apply r0;apply r0)|apply w4|apply w6|apply w7|apply wd|apply w5|apply we
                exact rt1 (H' := H) rfl rfl (.refl _) (by repeat first|exact s0|(apply su1;assumption)) hK
              rw [if_neg (fun z => e4 z.1)] at hK
              repeat first|(apply x1;apply r0;apply r0)|(apply x2;apply r0;(apply q0);apply r0)|apply w4|apply w6|apply w7|apply wa|apply w5
              refine aw_cond rfl (fun e5 => ?_) (fun e5 => ?_)<;>first|replace e5:=of_decide_eq_true e5|replace e5:=of_decide_eq_false e5
              · have e5' : 0 < ((encNames (T.at q.node).ents).length : Int) := e5
                rw [hml] at e5'
                rw [if_pos e5'] at hK
                repeat first|(apply x1;apply r0;apply r0)|apply w4|apply w6|apply w7|apply wd|apply w5|apply we
                exact rt1 (H' := H) rfl rfl (.refl _) (by repeat first|exact s0|(apply su1;assumption)) hK
              have e5' : ¬ 0 < ((encNames (T.at q.node).ents).length : Int) := e5
              rw [hml] at e5'
              rw [if_neg e5'] at hK
              repeat first|(apply x1;apply r0;apply r0)|apply w4|apply w6|apply w7|apply wa|apply wd|apply w5
              exact rt1 (H' := H) rfl rfl (.refl _) (by repeat first|exact s0|(apply su1;assumption)) hK
    · rw [if_neg (fun z => k1 z.1)] at hK
      refine s_gsplit rfl rfl (fun g7 => ?_) (fun g7 => ?_)<;>first|replace g7:=of_decide_eq_true g7|replace g7:=of_decide_eq_false g7
      · exact absurd g7 k1
      by_cases k9 : q.node = 0
      · have hne0 : ¬ ¬ q.node = 0 := fun z => z k9
        rw [if_neg hne0] at hK
        repeat first|(apply gO;first|(apply x1;apply r0;apply r0)|(apply x2;apply r0;(with_reducible repeat first|assumption|apply q0|apply q3);apply r0)|apply w4|(apply w3;apply r0;apply r0))|(apply gW;first|apply w6|apply w7|(apply w9;apply r0)|apply wa)|apply w5
        refine aw_cond rfl (fun s5 => ?_) (fun s5 => ?_)<;>first|replace s5:=of_decide_eq_true s5|replace s5:=of_decide_eq_false s5
        case refine_2 => exact absurd k9 s5
        by_cases k10 : q.dir = p.dir
        · rw [if_neg (fun z => z.2.1 k10)] at hK
          repeat first|(apply x1;apply r0;apply r0)|(apply x2;apply r0;(with_reducible repeat first|assumption|apply q0|apply q3);apply r0)|apply w6|apply w7
          refine s_gsplit rfl rfl (fun s6 => ?_) (fun s6 => ?_)<;>first|replace s6:=not_t s6|replace s6:=not_f s6
          · exact absurd k10 s6
          repeat first|(apply gO;first|(apply x1;apply r0;apply r0)|apply w4|(apply w3;apply r0;apply r0))|(apply gW;first|apply w6|apply w7|(apply w9;apply r0)|apply wa|apply wd)|apply w5|apply we
          exact rt1 (H' := H) rfl rfl (.refl _) (by repeat first|exact s0|(apply su1;assumption)) hK
        · repeat first|(apply x1;apply r0;apply r0)|(apply x2;apply r0;(with_reducible repeat first|assumption|apply q0|apply q3);apply r0)|apply w6|apply w7
          refine s_gsplit rfl rfl (fun s6 => ?_) (fun s6 => ?_)<;>first|replace s6:=not_t s6|replace s6:=not_f s6
          case refine_2 => exact absurd s6 k10
          repeat first|(apply x1;apply r0;apply r0)|(apply x2;apply r0;(with_reducible repeat first|assumption|apply q0|apply q3);apply r0)|(apply x5;apply r0)|(apply x9;apply r0)
          refine rget_c hll ?_
          rw [ht.get]
          repeat (apply x5;apply r0)
          refine s_field tk rfl rfl rfl rfl rfl rfl ?_
          repeat first|(apply x1;apply r0;apply r0)|(apply x5;apply r0)|apply w4|apply w5
          refine aw_cond rfl (fun s7 => ?_) (fun s7 => ?_)<;>first|replace s7:=of_decide_eq_true s7|replace s7:=of_decide_eq_false s7
          · have s7' : 8 ≤ ((encNames (T.at q.dir).ents).length : Int) := s7
            rw [hnl] at s7'
            rw [if_pos ⟨k9, k10, s7'⟩] at hK
            repeat first|(apply x1;apply r0;apply r0)|apply w4|apply w6|apply w7|apply wd|apply w5|apply we
            exact rt1 (H' := H) rfl rfl (.refl _) (by repeat first|exact s0|(apply su1;assumption)) hK
          have s7' : ¬ 8 ≤ ((encNames (T.at q.dir).ents).length : Int) := s7
          rw [hnl] at s7'
          rw [if_neg (fun z => s7' z.2.2)] at hK
          repeat first|(apply gO;first|(apply x1;apply r0;apply r0)|apply w4)|(apply gW;first|apply w6|apply w7|apply wa|apply wd)|apply w5|apply we
          exact rt1 (H' := H) rfl rfl (.refl _) (by repeat first|exact s0|(apply su1;assumption)) hK
      · rw [if_neg (fun z => k9 z.1)] at hK
        repeat first|(apply gO;first|(apply x1;apply r0;apply r0)|(apply x2;apply r0;(with_reducible repeat first|assumption|apply q0|apply q3);apply r0)|apply w4|(apply w3;apply r0;apply r0))|(apply gW;first|apply w6|apply w7|(apply w9;apply r0)|apply wa)|apply w5
        refine aw_cond rfl (fun s5 => ?_) (fun s5 => ?_)<;>first|replace s5:=of_decide_eq_true s5|replace s5:=of_decide_eq_false s5
        · exact absurd s5 k9
        rw [if_pos k9] at hK
        unfold Tab.overE at hK
        repeat first|(apply x2;apply r0;(with_reducible repeat first|assumption|apply q0|apply q3);apply r0)|(apply x9;apply r0)|apply w6|apply w7|apply wa|apply w5
        refine rsticky_c ht ?_
        repeat first|(apply x1;apply r0;apply r0)|(apply x2;apply r0;(with_reducible repeat first|assumption|apply q0|apply q3);apply r0)|(apply x9;apply r0)|apply w4|apply w6|apply w7|apply w5
        refine rget_c hll ?_
        rw [ht.get]
        have hml := names_len (T.at q.node).ents
        skip
        refine s_alloc tk rfl rfl rfl (fun b14 hb14 => ?_); have hb := hb14; (try simp only [put_none_iff, prot_none_iff] at hb); (repeat obtain ⟨_, _, hb⟩ := hb)
        repeat first|(apply x1;apply r0;apply r0)|(apply xst;apply r0;(apply ps);apply r0)|apply w4|apply w6|apply w7|apply w5
        cases hm : T.mayTake c q with
        | false =>
          rw [hm, if_pos rfl] at hK
          repeat first|(apply gO;first|(apply x1;apply r0;apply r0)|apply w4)|(apply gW;first|apply w6|apply w7|(apply w8;apply r0)|apply wd)|apply w5|apply we
          exact rt1 (H' := H) rfl rfl (.refl _) (by repeat first|exact s0|(apply su1;assumption)) hK
        | true =>
          rw [hm, if_neg (by decide)] at hK
          by_cases m1 : (T.at p.node).kind = 2
          · by_cases m2 : (T.at q.node).kind = 2
            · rw [if_neg (fun z => z.2 m2), if_neg (fun z => z.2 m1)] at hK
              repeat first|(apply x1;apply r0;apply r0)|(apply x2;apply r0;(with_reducible repeat first|assumption|apply q0|apply q3);apply r0)|apply w6|apply w7|(apply w9;apply r0)|apply wa|apply w5
              refine s_gsplit rfl rfl (fun e1 => ?_) (fun e1 => ?_)<;>first|replace e1:=of_decide_eq_true e1|replace e1:=of_decide_eq_false e1
              case refine_2 => exact absurd m1 e1
              repeat first|(apply x1;apply r0;apply r0)|(apply x2;apply r0;(apply q0);apply r0)|(apply x5;apply r0)|apply w4|apply w5
              refine aw_cond rfl (fun e2 => ?_) (fun e2 => ?_)<;>first|replace e2:=not_t e2|replace e2:=not_f e2
              · exact absurd m2 e2
              repeat first|(apply x1;apply r0;apply r0)|(apply x2;apply r0;(with_reducible repeat first|assumption|apply q0|apply q3);apply r0)|apply w6|apply w7|apply wa|apply w5
              refine s_gsplit rfl rfl (fun e3 => ?_) (fun e3 => ?_)<;>first|replace e3:=not_t e3|replace e3:=not_f e3
              · exact absurd m1 e3
              repeat first|(apply gO;first|(apply x1;apply r0;apply r0)|(apply x2;apply r0;(apply q0);apply r0)|apply w4|(apply w3;apply r0;apply r0))|(apply gW;first|apply w6|apply w7|(apply w9;apply r0)|apply wa)|apply w5
              refine aw_cond rfl (fun e5 => ?_) (fun e5 => ?_)<;>first|replace e5:=of_decide_eq_true e5|replace e5:=of_decide_eq_false e5
              · have e5' : 0 < ((encNames (T.at q.node).ents).length : Int) := e5
                rw [hml] at e5'
                rw [if_pos e5'] at hK
                repeat first|(apply x1;apply r0;apply r0)|apply w4|apply w6|apply w7|apply wd|apply w5|apply we
                exact rt1 (H' := H) rfl rfl (.refl _) (by repeat first|exact s0|(apply su1;assumption)) hK
              have e5' : ¬ 0 < ((encNames (T.at q.node).ents).length : Int) := e5
              rw [hml] at e5'
              rw [if_neg e5'] at hK
              repeat first|(apply x1;apply r0;apply r0)|apply w4|apply w6|apply w7|apply wa|apply wd|apply w5
              exact rt1 (H' := H) rfl rfl (.refl _) (by repeat first|exact s0|(apply su1;assumption)) hK
            · rw [if_pos ⟨m1, m2⟩] at hK
              repeat first|(apply x1;apply r0;apply r0)|(apply x2;apply r0;(with_reducible repeat first|assumption|apply q0|apply q3);apply r0)|apply w6|apply w7|(apply w9;apply r0)|apply wa|apply w5
              refine s_gsplit rfl rfl (fun e1 => ?_) (fun e1 => ?_)<;>first|replace e1:=of_decide_eq_true e1|replace e1:=of_decide_eq_false e1
              case refine_2 => exact absurd m1 e1
              repeat first|(apply x1;apply r0;apply r0)|(apply x2;apply r0;(apply q0);apply r0)|(apply x5;apply r0)|apply w4|apply w5
              refine aw_cond rfl (fun e2 => ?_) (fun e2 => ?_)<;>first|replace e2:=not_t e2|replace e2:=not_f e2
              case refine_2 => exact absurd e2 m2
              repeat first|(apply x1;apply r0;apply r0)|apply w4|apply w6|apply w7|apply wd|apply w5|apply we
              exact rt1 (H' := H) rfl rfl (.refl _) (by repeat first|exact s0|(apply su1;assumption)) hK
          · rw [if_neg (fun z => m1 z.1)] at hK
            repeat first|(apply x1;apply r0;apply r0)|(apply x2;apply r0;(with_reducible repeat first|assumption|apply q0|apply q3);apply r0)|apply w6|apply w7|(apply w9;apply r0)|apply wa|apply w5
            refine s_gsplit rfl rfl (fun e1 => ?_) (fun e1 => ?_)<;>first|replace e1:=of_decide_eq_true e1|replace e1:=of_decide_eq_false e1
            · exact absurd e1 m1
            repeat first|(apply gO;first|(apply x1;apply r0;apply r0)|(apply x2;apply r0;(with_reducible repeat first|assumption|apply q0|apply q3);apply r0)|apply w4|(apply w3;apply r0;apply r0))|(apply gW;first|apply w6|apply w7|(apply w9;apply r0)|apply wa)|apply w5
            refine s_gsplit rfl rfl (fun e3 => ?_) (fun e3 => ?_)<;>first|replace e3:=not_t e3|replace e3:=not_f e3
            case refine_2 => exact absurd e3 m1
            repeat first|(apply x1;apply r0;apply r0)|(apply x2;apply r0;(apply q0);apply r0)|(apply x5;apply r0)|apply w4|apply w5
            refine aw_cond rfl (fun e4 => ?_) (fun e4 => ?_)<;>first|replace e4:=of_decide_eq_true e4|replace e4:=of_decide_eq_false e4
            · rw [if_pos ⟨e4, m1⟩] at hK
              repeat first|(apply x1;apply r0;apply r0)|apply w4|apply w6|apply w7|apply wd|apply w5|apply we
              exact rt1 (H' := H) rfl rfl (.refl _) (by repeat first|exact s0|(apply su1;assumption)) hK
            rw [if_neg (fun z => e4 z.1)] at hK
            repeat first|(apply x1;apply r0;apply r0)|(apply x2;apply r0;(apply q0);apply r0)|apply w4|apply w6|apply w7|apply wa|apply w5
            refine aw_cond rfl (fun e5 => ?_) (fun e5 => ?_)<;>first|replace e5:=of_decide_eq_true e5|replace e5:=of_decide_eq_false e5
            · have e5' : 0 < ((encNames (T.at q.node).ents).length : Int) := e5
              rw [hml] at e5'
              rw [if_pos e5'] at hK
              repeat first|(apply x1;apply r0;apply r0)|apply w4|apply w6|apply w7|apply wd|apply w5|apply we
              exact rt1 (H' := H) rfl rfl (.refl _) (by repeat first|exact s0|(apply su1;assumption)) hK
            have e5' : ¬ 0 < ((encNames (T.at q.node).ents).length : Int) := e5
            rw [hml] at e5'
            rw [if_neg e5'] at hK
            repeat first|(apply x1;apply r0;apply r0)|apply w4|apply w6|apply w7|apply wa|apply wd|apply w5
            exact rt1 (H' := H) rfl rfl (.refl _) (by repeat first|exact s0|(apply su1;assumption)) hK
theorem rrename_c {T : Tab} {L : List Node} (ht : Tells T L) (htr : T.tree) {c : Cred} (hc : c.small) {fr tg : ByteArray} (hpf : fr.size ≤ 16777200) (hpt : tg.size ≤ 16777200) {op : List Int} (hop : op.length ≤ 9223372036854775807) {o : Own} {H : AHeap} {K : AVal → AHeap → Prop}
    (hK : ∀ M, Tells (T.renameF c (T.resolve c fr false) (T.resolve c tg false) op).1 M → M.length = L.length → K (.tup [.agg (encT M), .i (T.renameF c (T.resolve c fr false) (T.resolve c tg false) op).2]) H) :
    ACalls Tryz.prog 15 [.agg (encT L), .agg (encCred c), .s fr, .s tg, .sl (encInts op) o] H K := by
  refine acalls_body Tryz.func15 rfl rfl rfl ?_
  obtain ⟨q, hq⟩ : ∃ q, q = T.resolve c tg false := ⟨_, rfl⟩
  obtain ⟨p, hp⟩ : ∃ p, p = T.resolve c fr false := ⟨_, rfl⟩
  have hqn := resolve_name T c tg false
  rw [← hq] at hK hqn
  rw [← hp] at hK
  have hn1 : q.1.name.size < 4294967281 := Nat.lt_of_le_of_lt hqn (by decide)
  have hmay := renameE_may T c p q
  have hmv := renameF_move ht.good htr hp hq op
  have hmf := fun a b => move_facts ht.good htr (c := c) hp hq a b
  repeat first|apply w6|apply w7
  refine s_box rfl rfl rfl (fun b5 hb5 => ?_); have hb := hb5; (try simp only [put_none_iff, prot_none_iff] at hb); (repeat obtain ⟨_, _, hb⟩ := hb)
  skip
  refine s_box rfl rfl rfl (fun b6 hb6 => ?_); have hb := hb6; (try simp only [put_none_iff, prot_none_iff] at hb); (repeat obtain ⟨_, _, hb⟩ := hb)
  skip
  refine s_alloc tk rfl rfl rfl (fun b10 hb10 => ?_); have hb := hb10; (try simp only [put_none_iff, prot_none_iff] at hb); (repeat obtain ⟨_, _, hb⟩ := hb)
  repeat first|(apply x1;apply r0;apply r0)|(apply x2;apply r0;(with_reducible repeat first|assumption|apply q0|apply q3);apply r0)|(apply x9;apply r0)|apply w4|apply w6|apply w7|apply w5
  refine rpfind_c ht hc hpf ?_
  rw [← hp]
  generalize T.pfindE c p = pe at hmay ⊢
  repeat (apply x1;apply r0;apply r0)
  refine s_alloc tk rfl rfl rfl (fun b12 hb12 => ?_); have hb := hb12; (try simp only [put_none_iff, prot_none_iff] at hb); (repeat obtain ⟨_, _, hb⟩ := hb)
  repeat first|(apply x1;apply r0;apply r0)|(apply xst;apply r0;(apply ps);apply r0)|apply w4|apply w6|apply w7|apply w5
  refine aw_cond rfl (fun g1 => ?_) (fun g1 => ?_)<;>first|replace g1:=not_t g1|replace g1:=not_f g1
  · rw [if_pos g1] at hmay
    rw [renameF_err op (by rw [hmay]; exact g1), hmay] at hK
    repeat first|(apply gO;first|(apply x1;apply r0;apply r0)|(apply x2;apply r0;(with_reducible repeat first|assumption|apply q0|apply ps|apply q3|apply gp);apply r0)|(apply xst;apply r0;(with_reducible repeat first|assumption|apply q0|apply ps|apply q3|apply gp);apply r0)|apply w4)|(apply gW;first|apply w6|apply w7|apply wd)|apply w5|apply we
    exact rt2c (H' := H) rfl rfl (by apply q0) rfl (by rfl) rfl (by exact .pair (wk_agg rfl) (.refl _)) (by repeat first|exact s0|(apply su1;assumption)) (hK L ht rfl)
  have g1' : pe = 0 := g1
  rw [if_neg (fun z => z g1')] at hmay
  repeat first|(apply x1;apply r0;apply r0)|(apply x2;apply r0;(with_reducible repeat first|assumption|apply q0|apply q3);apply r0)|(apply x9;apply r0)|apply w6|apply w7|apply wa|apply w5
  refine rresolve_c ht hc hpt ?_
  rw [← hq]
  repeat (apply x1;apply r0;apply r0)
  refine s_alloc tk rfl rfl rfl (fun b14 hb14 => ?_); have hb := hb14; (try simp only [put_none_iff, prot_none_iff] at hb); (repeat obtain ⟨_, _, hb⟩ := hb)
  repeat first|(apply x1;apply r0;apply r0)|(apply xst;apply r0;(apply ps);apply r0)|apply w4|apply w6|apply w7|apply w5
  refine aw_cond rfl (fun g2 => ?_) (fun g2 => ?_)<;>first|replace g2:=not_t g2|replace g2:=not_f g2
  · rw [if_pos g2] at hmay
    rw [renameF_err op (by rw [hmay]; exact g2), hmay] at hK
    repeat first|(apply gO;first|(apply x1;apply r0;apply r0)|(apply x2;apply r0;(with_reducible repeat first|assumption|apply q0|apply ps|apply q3|apply gp);apply r0)|(apply xst;apply r0;(with_reducible repeat first|assumption|apply q0|apply ps|apply q3|apply gp);apply r0)|apply w4)|(apply gW;first|apply w6|apply w7|apply wd)|apply w5|apply we
    exact rt2c (H' := H) rfl rfl (by apply q0) rfl (by rfl) rfl (by exact .pair (wk_agg rfl) (.refl _)) (by repeat first|exact s0|(apply su1;assumption)) (hK L ht rfl)
  have g2' : q.2 = 0 := g2
  rw [if_neg (fun z => z g2')] at hmay
  repeat first|(apply x1;apply r0;apply r0)|(apply x2;apply r0;(with_reducible repeat first|assumption|apply q0|apply q3);apply r0)|(apply x9;apply r0)|apply w6|apply w7|apply wa|apply w5
  refine rmay_c (p := p.1) (q := q.1) ht hc ?_
  rw [← hmay]
  repeat first|(apply x1;apply r0;apply r0)|apply w4|apply w6|apply w7|apply w5
  refine s_gsplit rfl rfl (fun g3 => ?_) (fun g3 => ?_)<;>first|replace g3:=not_t g3|replace g3:=not_f g3
  · rw [renameF_err op g3] at hK
    repeat first|(apply gO;first|(apply x1;apply r0;apply r0)|(apply x2;apply r0;(with_reducible repeat first|assumption|apply q0|apply ps|apply q3|apply gp);apply r0)|(apply xst;apply r0;(with_reducible repeat first|assumption|apply q0|apply ps|apply q3|apply gp);apply r0)|apply w4|(apply w3;apply r0;apply r0))|(apply gW;first|apply w6|apply w7|(apply w8;apply r0)|apply wd)|apply w5|apply we
    exact rt2c (H' := H) rfl rfl (by apply q0) rfl (by rfl) rfl (by exact .pair (wk_agg rfl) (.refl _)) (by repeat first|exact s0|(apply su1;assumption)) (hK L ht rfl)
  have g3' : T.renameE c p q = 0 := g3
  repeat first|(apply x1;apply r0;apply r0)|(apply x2;apply r0;(with_reducible repeat first|assumption|apply q0|apply q3);apply r0)|(apply x5;apply r0)|apply w4|apply w5
  refine aw_cond rfl (fun g4 => ?_) (fun g4 => ?_)<;>first|replace g4:=of_decide_eq_true g4|replace g4:=of_decide_eq_false g4
  · rw [renameF_same op g3' g4] at hK
    rw [g3']
    repeat first|(apply gO;first|(apply x1;apply r0;apply r0)|(apply x2;apply r0;(with_reducible repeat first|assumption|apply q0|apply ps|apply q3|apply gp);apply r0)|(apply xst;apply r0;(with_reducible repeat first|assumption|apply q0|apply ps|apply q3|apply gp);apply r0)|apply w4)|(apply gW;first|apply w6|apply w7|apply wd)|apply w5|apply we
    exact rt2c (H' := H) rfl rfl (by apply q0) rfl (by rfl) rfl (by exact .pair (wk_agg rfl) (.refl _)) (by repeat first|exact s0|(apply su1;assumption)) (hK L ht rfl)
  have g4' : ¬ q.1.node = p.1.node := g4
  have hF := hmf g3' g4'
  have hB := two_facts ht.good hF
  rw [hmv g3' g4'] at hK
  have hh : (T.two p.1 q.1).has q.1.dir = true := has_kind'.2 (by
    obtain ⟨l, hl⟩ := hB.same q.1.dir
    rw [hl]; show (T.at q.1.dir).kind ≠ 0; rw [hF.qdir]; decide)
  obtain ⟨hpw, hok2, -⟩ := put_with hB.good hh hB.withE
  rw [hpw] at hK
  repeat first|(apply x1;apply r0;apply r0)|(apply x2;apply r0;(with_reducible repeat first|assumption|apply q0|apply q3);apply r0)|(apply x9;apply r0)|apply w6|apply w7|apply wa|apply w5
  refine rcut_c ht hF.pat.wo (fun M1 hM1 hMl1 => ?_)
  skip
  refine s_alloc tk rfl rfl rfl (fun b15 hb15 => ?_); have hb := hb15; (try simp only [put_none_iff, prot_none_iff] at hb); (repeat obtain ⟨_, _, hb⟩ := hb)
  repeat first|(apply x1;apply r0;apply r0)|(apply x2;apply r0;(with_reducible repeat first|assumption|apply q0|apply ps|apply q3);apply r0)|(apply xst;apply r0;(with_reducible repeat first|assumption|apply q0|apply ps|apply q3);apply r0)|apply w4|apply w6|apply w7|apply w5
  by_cases hq0 : q.1.node = 0
  · refine aw_cond rfl (fun z1 => ?_) (fun z1 => ?_)<;>first|replace z1:=of_decide_eq_true z1|replace z1:=of_decide_eq_false z1
    · exact absurd (show 0 < q.1.node from z1) (by rw [hq0]; decide)
    have hMl := hMl1
    have hM : Tells (T.two p.1 q.1) M1 := by unfold Tab.two; rw [if_pos hq0]; exact hM1
    have hrng := tells_rng hM hh
    have htp := tells_put hM hh (.inr hok2)
    have hdf := at_few hM.good q.1.dir
    have hds := hdf.small
    have hdn := few_nlen hdf
    repeat first|apply w6|apply wa|apply w5
    refine aw_prot [b12, b14, b15] (allc (by with_reducible repeat first|assumption|apply q0|apply q3) (allc (by with_reducible repeat first|assumption|apply q0|apply q3) (allc (by apply q0) (allc0 _)))) ?_
    refine aw_plan mixed (.take 0 (.take 1 (.take 2 (.take 4 (.take 5 (.take 6 (.take 7 (.two 3 12 (.two 8 12 (.take 9 (.take 10 (.take 11 (.one 12 (.one 13 (.take 14 .done)))))) (.one 8 (.take 9 (.take 10 (.take 11 (.one 13 (.take 14 .done))))))) (.one 3 (.one 8 (.take 9 (.take 10 (.take 11 (.one 13 (.take 14 .done))))))))))))))) (by kernel_rfl) ?_
    repeat first|(apply y1;apply r0;apply r0)|(apply y2;apply r0;apply r0;(with_reducible repeat first|assumption|apply q0|apply pg|apply q3|exact mm0|apply mm1);apply r0)
    refine e_two rfl rfl ?_ ?_
    · repeat (apply x9;apply r0)
      refine rget_c hM.len ?_
      rw [hM.get]
      repeat apply w4
      refine e_two rfl rfl ?_ ?_
      · repeat (apply x9;apply r0)
        refine rnwith_c hds hdn hn1 ?_
        rw [rwith_eq, hB.withE]
        repeat first|apply w4|(apply y1;apply r0;apply r0)|(apply y4;apply r0)
        refine s_alloc tk rfl rfl rfl (fun b16 hb16 => ?_); have hb := hb16; (try simp only [put_none_iff, prot_none_iff] at hb); (repeat obtain ⟨_, _, hb⟩ := hb)
        repeat first|(apply xst;apply r0;(apply ps);apply r0)|apply w4|(apply y1;apply r0;apply r0)|apply y0|(apply y4;apply r0)
        simp only [put_put]
        refine prot_done_put (by simp only [List.mem_cons,List.not_mem_nil,or_false,not_or]; first|exact (by first|assumption|exact n1 ‹_› ‹_›|exact n2 ‹_› ‹_›|exact n3 ‹_› ‹_›|exact n4 ‹_› ‹_›)|exact ⟨(by first|assumption|exact n1 ‹_› ‹_›|exact n2 ‹_› ‹_›|exact n3 ‹_› ‹_›|exact n4 ‹_› ‹_›),(by first|assumption|exact n1 ‹_› ‹_›|exact n2 ‹_› ‹_›|exact n3 ‹_› ‹_›|exact n4 ‹_› ‹_›)⟩|exact ⟨(by first|assumption|exact n1 ‹_› ‹_›|exact n2 ‹_› ‹_›|exact n3 ‹_› ‹_›|exact n4 ‹_› ‹_›),(by first|assumption|exact n1 ‹_› ‹_›|exact n2 ‹_› ‹_›|exact n3 ‹_› ‹_›|exact n4 ‹_› ‹_›),(by first|assumption|exact n1 ‹_› ‹_›|exact n2 ‹_› ‹_›|exact n3 ‹_› ‹_›|exact n4 ‹_› ‹_›)⟩) ?_
        repeat first|(apply x1;apply r0;apply r0)|(apply x2;apply r0;(with_reducible repeat first|assumption|apply q0|apply q3);apply r0)|(apply x9;apply r0)|apply w6|apply w7|apply w5
        refine rwith_c (n := ((T.two p.1 q.1).at q.1.dir).withN q.1.name p.1.node) hrng (Nat.le_trans hM.rel.most (by decide)) ?_
        repeat first|(apply gO;first|(apply x1;apply r0;apply r0)|(apply x2;apply r0;(with_reducible repeat first|assumption|apply q0|apply ps|apply q3|apply gp);apply r0)|(apply xst;apply r0;(with_reducible repeat first|assumption|apply q0|apply ps|apply q3|apply gp);apply r0)|(apply x9;apply r0)|apply w4)|(apply gW;first|apply w6|apply w7)|apply w5
        refine rfreen_c htp hop (fun N hN hNl => ?_)
        repeat (apply x1;apply r0;apply r0)
        refine s_alloc tk rfl rfl rfl (fun b18 hb18 => ?_); have hb := hb18; (try simp only [put_none_iff, prot_none_iff] at hb); (repeat obtain ⟨_, _, hb⟩ := hb)
        repeat first|(apply gO;first|(apply x1;apply r0;apply r0)|(apply x2;apply r0;(with_reducible repeat first|assumption|apply q0|apply ps|apply gp);apply r0)|(apply xst;apply r0;(with_reducible repeat first|assumption|apply q0|apply ps|apply gp);apply r0)|apply w4)|(apply gW;first|apply w6|apply w7|apply wd)|apply w5
        exact rt2c (H' := H) rfl rfl (by apply q0) rfl (by rfl) rfl (by exact .pair (wk_agg rfl) (.refl _)) (by repeat first|exact s0|(apply su1;assumption)) (hK N hN (by rw [hNl, List.length_set, hMl]))
      · skip
        refine s_alloc tk rfl rfl rfl (fun b16 hb16 => ?_); have hb := hb16; (try simp only [put_none_iff, prot_none_iff] at hb); (repeat obtain ⟨_, _, hb⟩ := hb)
        repeat first|(apply x9;apply r0)|apply w4|(apply y4;apply r0)
        refine rnwith_c hds hdn hn1 ?_
        rw [rwith_eq, hB.withE]
        repeat first|(apply xst;apply r0;(apply ps);apply r0)|apply w4|(apply y1;apply r0;apply r0)|apply y0|(apply y4;apply r0)
        simp only [put_put]
        refine prot_done_put (by simp only [List.mem_cons,List.not_mem_nil,or_false,not_or]; first|exact (by first|assumption|exact n1 ‹_› ‹_›|exact n2 ‹_› ‹_›|exact n3 ‹_› ‹_›|exact n4 ‹_› ‹_›)|exact ⟨(by first|assumption|exact n1 ‹_› ‹_›|exact n2 ‹_› ‹_›|exact n3 ‹_› ‹_›|exact n4 ‹_› ‹_›),(by first|assumption|exact n1 ‹_› ‹_›|exact n2 ‹_› ‹_›|exact n3 ‹_› ‹_›|exact n4 ‹_› ‹_›)⟩|exact ⟨(by first|assumption|exact n1 ‹_› ‹_›|exact n2 ‹_› ‹_›|exact n3 ‹_› ‹_›|exact n4 ‹_› ‹_›),(by first|assumption|exact n1 ‹_› ‹_›|exact n2 ‹_› ‹_›|exact n3 ‹_› ‹_›|exact n4 ‹_› ‹_›),(by first|assumption|exact n1 ‹_› ‹_›|exact n2 ‹_› ‹_›|exact n3 ‹_› ‹_›|exact n4 ‹_› ‹_›)⟩) ?_
        repeat first|(apply x1;apply r0;apply r0)|(apply x2;apply r0;(with_reducible repeat first|assumption|apply q0|apply q3);apply r0)|(apply x9;apply r0)|apply w6|apply w7|apply w5
        refine rwith_c (n := ((T.two p.1 q.1).at q.1.dir).withN q.1.name p.1.node) hrng (Nat.le_trans hM.rel.most (by decide)) ?_
        repeat first|(apply gO;first|(apply x1;apply r0;apply r0)|(apply x2;apply r0;(with_reducible repeat first|assumption|apply q0|apply ps|apply q3|apply gp);apply r0)|(apply xst;apply r0;(with_reducible repeat first|assumption|apply q0|apply ps|apply q3|apply gp);apply r0)|(apply x9;apply r0)|apply w4)|(apply gW;first|apply w6|apply w7)|apply w5
        refine rfreen_c htp hop (fun N hN hNl => ?_)
        repeat (apply x1;apply r0;apply r0)
        refine s_alloc tk rfl rfl rfl (fun b18 hb18 => ?_); have hb := hb18; (try simp only [put_none_iff, prot_none_iff] at hb); (repeat obtain ⟨_, _, hb⟩ := hb)
        repeat first|(apply gO;first|(apply x1;apply r0;apply r0)|(apply x2;apply r0;(with_reducible repeat first|assumption|apply q0|apply ps|apply gp);apply r0)|(apply xst;apply r0;(with_reducible repeat first|assumption|apply q0|apply ps|apply gp);apply r0)|apply w4)|(apply gW;first|apply w6|apply w7|apply wd)|apply w5
        exact rt2c (H' := H) rfl rfl (by apply q0) rfl (by rfl) rfl (by exact .pair (wk_agg rfl) (.refl _)) (by repeat first|exact s0|(apply su1;assumption)) (hK N hN (by rw [hNl, List.length_set, hMl]))
    · skip
      refine s_alloc tk rfl rfl rfl (fun b16 hb16 => ?_); have hb := hb16; (try simp only [put_none_iff, prot_none_iff] at hb); (repeat obtain ⟨_, _, hb⟩ := hb)
      repeat first|(apply x9;apply r0)|apply w4|(apply y4;apply r0)
      refine rget_c hM.len ?_
      rw [hM.get]
      repeat first|(apply x9;apply r0)|apply w4|(apply y4;apply r0)
      refine rnwith_c hds hdn hn1 ?_
      rw [rwith_eq, hB.withE]
      repeat first|(apply xst;apply r0;(apply ps);apply r0)|apply w4|(apply y1;apply r0;apply r0)|apply y0|(apply y4;apply r0)
      simp only [put_put]
      refine prot_done_put (by simp only [List.mem_cons,List.not_mem_nil,or_false,not_or]; first|exact (by first|assumption|exact n1 ‹_› ‹_›|exact n2 ‹_› ‹_›|exact n3 ‹_› ‹_›|exact n4 ‹_› ‹_›)|exact ⟨(by first|assumption|exact n1 ‹_› ‹_›|exact n2 ‹_› ‹_›|exact n3 ‹_› ‹_›|exact n4 ‹_› ‹_›),(by first|assumption|exact n1 ‹_› ‹_›|exact n2 ‹_› ‹_›|exact n3 ‹_› ‹_›|exact n4 ‹_› ‹_›)⟩|exact ⟨(by first|assumption|exact n1 ‹_› ‹_›|exact n2 ‹_› ‹_›|exact n3 ‹_› ‹_›|exact n4 ‹_› ‹_›),(by first|assumption|exact n1 ‹_› ‹_›|exact n2 ‹_› ‹_›|exact n3 ‹_› ‹_›|exact n4 ‹_› ‹_›),(by first|assumption|exact n1 ‹_› ‹_›|exact n2 ‹_› ‹_›|exact n3 ‹_› ‹_›|exact n4 ‹_› ‹_›)⟩) ?_
      repeat first|(apply x1;apply r0;apply r0)|(apply x2;apply r0;(with_reducible repeat first|assumption|apply q0|apply q3);apply r0)|(apply x9;apply r0)|apply w6|apply w7|apply w5
      refine rwith_c (n := ((T.two p.1 q.1).at q.1.dir).withN q.1.name p.1.node) hrng (Nat.le_trans hM.rel.most (by decide)) ?_
      repeat first|(apply gO;first|(apply x1;apply r0;apply r0)|(apply x2;apply r0;(with_reducible repeat first|assumption|apply q0|apply ps|apply q3|apply gp);apply r0)|(apply xst;apply r0;(with_reducible repeat first|assumption|apply q0|apply ps|apply q3|apply gp);apply r0)|(apply x9;apply r0)|apply w4)|(apply gW;first|apply w6|apply w7)|apply w5
      refine rfreen_c htp hop (fun N hN hNl => ?_)
      repeat (apply x1;apply r0;apply r0)
      refine s_alloc tk rfl rfl rfl (fun b18 hb18 => ?_); have hb := hb18; (try simp only [put_none_iff, prot_none_iff] at hb); (repeat obtain ⟨_, _, hb⟩ := hb)
      repeat first|(apply gO;first|(apply x1;apply r0;apply r0)|(apply x2;apply r0;(with_reducible repeat first|assumption|apply q0|apply ps|apply gp);apply r0)|(apply xst;apply r0;(with_reducible repeat first|assumption|apply q0|apply ps|apply gp);apply r0)|apply w4)|(apply gW;first|apply w6|apply w7|apply wd)|apply w5
      exact rt2c (H' := H) rfl rfl (by apply q0) rfl (by rfl) rfl (by exact .pair (wk_agg rfl) (.refl _)) (by repeat first|exact s0|(apply su1;assumption)) (hK N hN (by rw [hNl, List.length_set, hMl]))
  · have hqp : 0 < q.1.node := by have := (has_rng (hF.qat hq0).has).1; omega
    refine aw_cond rfl (fun z1 => ?_) (fun z1 => ?_)<;>first|replace z1:=of_decide_eq_true z1|replace z1:=of_decide_eq_false z1
    case refine_2 => exact absurd hqp z1
    repeat first|(apply x1;apply r0;apply r0)|(apply x2;apply r0;(with_reducible repeat first|assumption|apply q0|apply q3);apply r0)|(apply x9;apply r0)|apply w7
    refine rcut_c hM1 (cut_comm ht.good hF.pat.wo (hF.qat hq0).wo (names_apart hF hq0)).2.1 (fun M hM2 hMl2 => ?_)
    have hMl := hMl2.trans hMl1
    have hM : Tells (T.two p.1 q.1) M := by unfold Tab.two; rw [if_neg hq0]; exact hM2
    have hrng := tells_rng hM hh
    have htp := tells_put hM hh (.inr hok2)
    have hdf := at_few hM.good q.1.dir
    have hds := hdf.small
    have hdn := few_nlen hdf
    repeat first|(apply xst;apply r0;(apply ps);apply r0)|apply w4|apply w6|apply w5
    refine aw_prot [b12, b14, b15] (allc (by with_reducible repeat first|assumption|apply q0|apply q3) (allc (by with_reducible repeat first|assumption|apply q0|apply q3) (allc (by apply q0) (allc0 _)))) ?_
    refine aw_plan mixed (.take 0 (.take 1 (.take 2 (.take 4 (.take 5 (.take 6 (.take 7 (.two 3 12 (.two 8 12 (.take 9 (.take 10 (.take 11 (.one 12 (.one 13 (.take 14 .done)))))) (.one 8 (.take 9 (.take 10 (.take 11 (.one 13 (.take 14 .done))))))) (.one 3 (.one 8 (.take 9 (.take 10 (.take 11 (.one 13 (.take 14 .done))))))))))))))) (by kernel_rfl) ?_
    repeat first|(apply y1;apply r0;apply r0)|(apply y2;apply r0;apply r0;(with_reducible repeat first|assumption|apply q0|apply pg|apply q3|exact mm0|apply mm1);apply r0)
    refine e_two rfl rfl ?_ ?_
    · repeat (apply x9;apply r0)
      refine rget_c hM.len ?_
      rw [hM.get]
      repeat apply w4
      refine e_two rfl rfl ?_ ?_
      · repeat (apply x9;apply r0)
        refine rnwith_c hds hdn hn1 ?_
        rw [rwith_eq, hB.withE]
        repeat first|apply w4|(apply y1;apply r0;apply r0)|(apply y4;apply r0)
        refine s_alloc tk rfl rfl rfl (fun b16 hb16 => ?_); have hb := hb16; (try simp only [put_none_iff, prot_none_iff] at hb); (repeat obtain ⟨_, _, hb⟩ := hb)
        repeat first|(apply xst;apply r0;(apply ps);apply r0)|apply w4|(apply y1;apply r0;apply r0)|apply y0|(apply y4;apply r0)
        simp only [put_put]
        refine prot_done_put (by simp only [List.mem_cons,List.not_mem_nil,or_false,not_or]; first|exact (by first|assumption|exact n1 ‹_› ‹_›|exact n2 ‹_› ‹_›|exact n3 ‹_› ‹_›|exact n4 ‹_› ‹_›)|exact ⟨(by first|assumption|exact n1 ‹_› ‹_›|exact n2 ‹_› ‹_›|exact n3 ‹_› ‹_›|exact n4 ‹_› ‹_›),(by first|assumption|exact n1 ‹_› ‹_›|exact n2 ‹_› ‹_›|exact n3 ‹_› ‹_›|exact n4 ‹_› ‹_›)⟩|exact ⟨(by first|assumption|exact n1 ‹_› ‹_›|exact n2 ‹_› ‹_›|exact n3 ‹_› ‹_›|exact n4 ‹_› ‹_›),(by first|assumption|exact n1 ‹_› ‹_›|exact n2 ‹_› ‹_›|exact n3 ‹_› ‹_›|exact n4 ‹_› ‹_›),(by first|assumption|exact n1 ‹_› ‹_›|exact n2 ‹_› ‹_›|exact n3 ‹_› ‹_›|exact n4 ‹_› ‹_›)⟩) ?_
        repeat first|(apply x1;apply r0;apply r0)|(apply x2;apply r0;(with_reducible repeat first|assumption|apply q0|apply q3);apply r0)|(apply x9;apply r0)|apply w6|apply w7|apply w5
        refine rwith_c (n := ((T.two p.1 q.1).at q.1.dir).withN q.1.name p.1.node) hrng (Nat.le_trans hM.rel.most (by decide)) ?_
        repeat first|(apply gO;first|(apply x1;apply r0;apply r0)|(apply x2;apply r0;(with_reducible repeat first|assumption|apply q0|apply ps|apply q3|apply gp);apply r0)|(apply xst;apply r0;(with_reducible repeat first|assumption|apply q0|apply ps|apply q3|apply gp);apply r0)|(apply x9;apply r0)|apply w4)|(apply gW;first|apply w6|apply w7)|apply w5
        refine rfreen_c htp hop (fun N hN hNl => ?_)
        repeat (apply x1;apply r0;apply r0)
        refine s_alloc tk rfl rfl rfl (fun b18 hb18 => ?_); have hb := hb18; (try simp only [put_none_iff, prot_none_iff] at hb); (repeat obtain ⟨_, _, hb⟩ := hb)
        repeat first|(apply gO;first|(apply x1;apply r0;apply r0)|(apply x2;apply r0;(with_reducible repeat first|assumption|apply q0|apply ps|apply gp);apply r0)|(apply xst;apply r0;(with_reducible repeat first|assumption|apply q0|apply ps|apply gp);apply r0)|apply w4)|(apply gW;first|apply w6|apply w7|apply wd)|apply w5
        exact rt2c (H' := H) rfl rfl (by apply q0) rfl (by rfl) rfl (by exact .pair (wk_agg rfl) (.refl _)) (by repeat first|exact s0|(apply su1;assumption)) (hK N hN (by rw [hNl, List.length_set, hMl]))
      · skip
        refine s_alloc tk rfl rfl rfl (fun b16 hb16 => ?_); have hb := hb16; (try simp only [put_none_iff, prot_none_iff] at hb); (repeat obtain ⟨_, _, hb⟩ := hb)
        repeat first|(apply x9;apply r0)|apply w4|(apply y4;apply r0)
        refine rnwith_c hds hdn hn1 ?_
        rw [rwith_eq, hB.withE]
        repeat first|(apply xst;apply r0;(apply ps);apply r0)|apply w4|(apply y1;apply r0;apply r0)|apply y0|(apply y4;apply r0)
        simp only [put_put]
        refine prot_done_put (by simp only [List.mem_cons,List.not_mem_nil,or_false,not_or]; first|exact (by first|assumption|exact n1 ‹_› ‹_›|exact n2 ‹_› ‹_›|exact n3 ‹_› ‹_›|exact n4 ‹_› ‹_›)|exact ⟨(by first|assumption|exact n1 ‹_› ‹_›|exact n2 ‹_› ‹_›|exact n3 ‹_› ‹_›|exact n4 ‹_› ‹_›),(by first|assumption|exact n1 ‹_› ‹_›|exact n2 ‹_› ‹_›|exact n3 ‹_› ‹_›|exact n4 ‹_› ‹_›)⟩|exact ⟨(by first|assumption|exact n1 ‹_› ‹_›|exact n2 ‹_› ‹_›|exact n3 ‹_› ‹_›|exact n4 ‹_› ‹_›),(by first|assumption|exact n1 ‹_› ‹_›|exact n2 ‹_› ‹_›|exact n3 ‹_› ‹_›|exact n4 ‹_› ‹_›),(by first|assumption|exact n1 ‹_› ‹_›|exact n2 ‹_› ‹_›|exact n3 ‹_› ‹_›|exact n4 ‹_› ‹_›)⟩) ?_
        repeat first|(apply x1;apply r0;apply r0)|(apply x2;apply r0;(with_reducible repeat first|assumption|apply q0|apply q3);apply r0)|(apply x9;apply r0)|apply w6|apply w7|apply w5
        refine rwith_c (n := ((T.two p.1 q.1).at q.1.dir).withN q.1.name p.1.node) hrng (Nat.le_trans hM.rel.most (by decide)) ?_
        repeat first|(apply gO;first|(apply x1;apply r0;apply r0)|(apply x2;apply r0;(with_reducible repeat first|assumption|apply q0|apply ps|apply q3|apply gp);apply r0)|(apply xst;apply r0;(with_reducible repeat first|assumption|apply q0|apply ps|apply q3|apply gp);apply r0)|(apply x9;apply r0)|apply w4)|(apply gW;first|apply w6|apply w7)|apply w5
        refine rfreen_c htp hop (fun N hN hNl => ?_)
        repeat (apply x1;apply r0;apply r0)
        refine s_alloc tk rfl rfl rfl (fun b18 hb18 => ?_); have hb := hb18; (try simp only [put_none_iff, prot_none_iff] at hb); (repeat obtain ⟨_, _, hb⟩ := hb)
        repeat first|(apply gO;first|(apply x1;apply r0;apply r0)|(apply x2;apply r0;(with_reducible repeat first|assumption|apply q0|apply ps|apply gp);apply r0)|(apply xst;apply r0;(with_reducible repeat first|assumption|apply q0|apply ps|apply gp);apply r0)|apply w4)|(apply gW;first|apply w6|apply w7|apply wd)|apply w5
        exact rt2c (H' := H) rfl rfl (by apply q0) rfl (by rfl) rfl (by exact .pair (wk_agg rfl) (.refl _)) (by repeat first|exact s0|(apply su1;assumption)) (hK N hN (by rw [hNl, List.length_set, hMl]))
    · skip
      refine s_alloc tk rfl rfl rfl (fun b16 hb16 => ?_); have hb := hb16; (try simp only [put_none_iff, prot_none_iff] at hb); (repeat obtain ⟨_, _, hb⟩ := hb)
      repeat first|(apply x9;apply r0)|apply w4|(apply y4;apply r0)
      refine rget_c hM.len ?_
      rw [hM.get]
      repeat first|(apply x9;apply r0)|apply w4|(apply y4;apply r0)
      refine rnwith_c hds hdn hn1 ?_
      rw [rwith_eq, hB.withE]
      repeat first|(apply xst;apply r0;(apply ps);apply r0)|apply w4|(apply y1;apply r0;apply r0)|apply y0|(apply y4;apply r0)
      simp only [put_put]
      refine prot_done_put (by simp only [List.mem_cons,List.not_mem_nil,or_false,not_or]; first|exact (by first|assumption|exact n1 ‹_› ‹_›|exact n2 ‹_› ‹_›|exact n3 ‹_› ‹_›|exact n4 ‹_› ‹_›)|exact ⟨(by first|assumption|exact n1 ‹_› ‹_›|exact n2 ‹_› ‹_›|exact n3 ‹_› ‹_›|exact n4 ‹_› ‹_›),(by first|assumption|exact n1 ‹_› ‹_›|exact n2 ‹_› ‹_›|exact n3 ‹_› ‹_›|exact n4 ‹_› ‹_›)⟩|exact ⟨(by first|assumption|exact n1 ‹_› ‹_›|exact n2 ‹_› ‹_›|exact n3 ‹_› ‹_›|exact n4 ‹_› ‹_›),(by first|assumption|exact n1 ‹_› ‹_›|exact n2 ‹_› ‹_›|exact n3 ‹_› ‹_›|exact n4 ‹_› ‹_›),(by first|assumption|exact n1 ‹_› ‹_›|exact n2 ‹_› ‹_›|exact n3 ‹_› ‹_›|exact n4 ‹_› ‹_›)⟩) ?_
      repeat first|(apply x1;apply r0;apply r0)|(apply x2;apply r0;(with_reducible repeat first|assumption|apply q0|apply q3);apply r0)|(apply x9;apply r0)|apply w6|apply w7|apply w5
      refine rwith_c (n := ((T.two p.1 q.1).at q.1.dir).withN q.1.name p.1.node) hrng (Nat.le_trans hM.rel.most (by decide)) ?_
      repeat first|(apply gO;first|(apply x1;apply r0;apply r0)|(apply x2;apply r0;(with_reducible repeat first|assumption|apply q0|apply ps|apply q3|apply gp);apply r0)|(apply xst;apply r0;(with_reducible repeat first|assumption|apply q0|apply ps|apply q3|apply gp);apply r0)|(apply x9;apply r0)|apply w4)|(apply gW;first|apply w6|apply w7)|apply w5
      refine rfreen_c htp hop (fun N hN hNl => ?_)
      repeat (apply x1;apply r0;apply r0)
      refine s_alloc tk rfl rfl rfl (fun b18 hb18 => ?_); have hb := hb18; (try simp only [put_none_iff, prot_none_iff] at hb); (repeat obtain ⟨_, _, hb⟩ := hb)
      repeat first|(apply gO;first|(apply x1;apply r0;apply r0)|(apply x2;apply r0;(with_reducible repeat first|assumption|apply q0|apply ps|apply gp);apply r0)|(apply xst;apply r0;(with_reducible repeat first|assumption|apply q0|apply ps|apply gp);apply r0)|apply w4)|(apply gW;first|apply w6|apply w7|apply wd)|apply w5
      exact rt2c (H' := H) rfl rfl (by apply q0) rfl (by rfl) rfl (by exact .pair (wk_agg rfl) (.refl _)) (by repeat first|exact s0|(apply su1;assumption)) (hK N hN (by rw [hNl, List.length_set, hMl]))
end Abs
end Go.Proofs.YtpmnfbgnlanpoaaGreat
