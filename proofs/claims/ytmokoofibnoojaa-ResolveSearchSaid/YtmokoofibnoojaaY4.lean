import Derived.Test.YtmokoofibnoojaaY2
import Derived.Test.YtmokoofibnoojaaZ3
import Derived.Test.YtmokoofibnoojaaV1
set_option linter.unusedVariables false
namespace Go.Proofs.Ytmokoofibnoojaa
namespace Abs
set_option linter.unusedSimpArgs false
set_option maxRecDepth 10000
set_option maxHeartbeats 2000000
attribute [local irreducible] AOps AW AP ACalls thenQ inBlk noGoto

/-! ### ResolveSearch -/
theorem resolveSearch_c {room : Int} {l : List Raw} (hl : l.length ≤ 9223372036854775807) {c : Cred} {path : ByteArray} {follow : Bool} {H : AHeap} {K : AVal → AHeap → Prop} (hK : K (.b true) H) :
    ACalls Try.prog 5 [.i room, .sl (encRaws l) .no, .agg (encCred c), .s path, .b follow] H K := by
  refine acalls_body Try.func5 rfl rfl rfl ?_
  repeat first|apply w6|apply w7
  refine s_box rfl rfl rfl (fun b7 hb7 => ?_); have hb := hb7; (try simp only [put_none_iff, prot_none_iff] at hb); (repeat obtain ⟨_, _, hb⟩ := hb)
  repeat first|(apply x1;apply r0;apply r0)|(apply x9;apply r0)|apply w4|apply w6|apply w7|apply w5
  refine awake11_c ?_
  repeat first|(apply gO;first|(apply x1;apply r0;apply r0)|(apply x2;apply r0;(apply q0);apply r0)|(apply x9;apply r0)|apply w4)|(apply gW;first|apply w6|apply w7|(apply w9;apply r0)|apply wa)|apply w5
  refine built11_c hl ?_ (fun T t hB ht => ?_)
  · repeat first|(apply gO;first|(apply x1;apply r0;apply r0)|apply w4|(apply w3;apply r0;apply r0))|(apply gW;first|apply w6|apply w7|(apply w8;apply r0)|apply wd)|apply w5|apply we
    exact rt1 (H' := H) rfl rfl (.refl _) (by repeat first|exact s0|(apply su1;assumption)) hK
  have hg := hB.good
  have hc := hB.small
  have htr := build_tree hB.tree
  have nb7 : b7 ≠ t := by
    have := (put_none_iff.1 ht)
    exact this.2.1
  have ht' : H t = none := (put_none_iff.1 ht).2.2
  repeat first|(apply x1;apply r0;apply r0)|(apply x5;apply r0)|apply w4|apply w6|apply w7|apply w5
  refine aw_cond rfl (fun g1 => ?_) (fun g1 => ?_)<;>first|replace g1:=of_decide_eq_true g1|replace g1:=of_decide_eq_false g1
  · repeat first|(apply x1;apply r0;apply r0)|apply w4|apply w6|apply w7|apply wd|apply w5|apply we
    exact rt1 (H' := H) rfl rfl (.refl _) (by repeat first|exact s0|(apply su1;assumption)) hK
  repeat first|(apply x1;apply r0;apply r0)|(apply x2;apply r0;(with_reducible repeat first|assumption|apply q0|apply q3);apply r0)|(apply x9;apply r0)|apply w6|apply w7|apply wa|apply w5
  refine resolve_c hg hc (by apply q0) ?_
  have hsr := resolve_srch hg htr c path follow
  generalize T.resolve c path follow = r at hsr ⊢
  obtain ⟨f, e⟩ := r
  dsimp only at hsr ⊢
  repeat (apply x1;apply r0;apply r0)
  refine s_alloc tk rfl rfl rfl (fun b14 hb14 => ?_); have hb := hb14; (try simp only [put_none_iff, prot_none_iff] at hb); (repeat obtain ⟨_, _, hb⟩ := hb)
  repeat first|(apply x1;apply r0;apply r0)|(apply xst;apply r0;(apply ps);apply r0)|apply w4|apply w6|apply w7|apply w5
  refine aw_cond rfl (fun g2 => ?_) (fun g2 => ?_)<;>first|replace g2:=not_t g2|replace g2:=not_f g2
  · have hz : f = Found.zero := by
      rcases hsr with ⟨_, h⟩ | ⟨h, _⟩
      · exact h
      · exact absurd h g2
    subst hz
    repeat first|(apply x2;apply r0;(apply q0);apply r0)|(apply xbd;apply r0)|apply w6|apply w7
    refine s_eqagg (r := true) tk rfl (.inl rfl) rfl rfl rfl (by kernel_rfl) rfl ?_
    repeat first|(apply x1;apply r0;apply r0)|apply w4|apply wd|apply w5|apply we
    exact rt1 (H' := H) rfl rfl (.refl _) (by repeat first|exact s0|(apply su1;assumption)) hK
  have g2' : e = 0 := g2
  subst g2'
  obtain ⟨-, hkd, hanc, hfin⟩ : (0 : Int) = 0 ∧ (T.at f.dir).kind = 2 ∧ _ := by
    rcases hsr with ⟨h, _⟩ | h
    · exact absurd rfl h
    · exact h
  clear g2 hsr
  have hd := has_kind'.2 (show (T.at f.dir).kind ≠ 0 by rw [hkd]; decide)
  repeat first|(apply x1;apply r0;apply r0)|(apply x2;apply r0;(apply q0);apply r0)|(apply x9;apply r0)|apply w6|apply w7|apply wa|apply w5
  refine tget_c hg.wf (by with_reducible repeat first|assumption|apply q0|apply q3) ?_
  rw [hd]
  repeat (apply x1;apply r0;apply r0)
  refine s_alloc tk rfl rfl rfl (fun b16 hb16 => ?_); have hb := hb16; (try simp only [put_none_iff, prot_none_iff] at hb); (repeat obtain ⟨_, _, hb⟩ := hb)
  repeat first|(apply gO;first|(apply x1;apply r0;apply r0)|(apply x2;apply r0;(with_reducible repeat first|assumption|apply q0|apply ps|apply q3);apply r0)|(apply xst;apply r0;(with_reducible repeat first|assumption|apply q0|apply ps|apply q3);apply r0)|apply w4)|(apply gW;first|apply w6|apply w7|(apply w9;apply r0)|apply wa)|apply w5
  have hfin2 : follow = true → ¬ f.name = ⟨#[]⟩ → ¬ (T.at f.node).kind = 3 := fun h1 h2 => by
    rcases hfin with ⟨h, _⟩ | ⟨_, _, _, h⟩
    · exact absurd h h2
    · exact fun h3 => h ⟨h1, h3⟩
  have hup := up24 hg htr hkd
  refine aw_cond rfl (fun g3 => ?_) (fun g3 => ?_)<;>first|replace g3:=of_decide_eq_true g3|replace g3:=of_decide_eq_false g3
  · rcases hfin with ⟨hn, hdn⟩ | ⟨hn, _⟩
    case inr => exact absurd g3 hn
    repeat first|(apply x1;apply r0;apply r0)|(apply x2;apply r0;(with_reducible repeat first|assumption|apply q0|apply q3);apply r0)|apply w4|apply w6|apply w7|apply w5
    refine aw_cond rfl (fun g4 => ?_) (fun g4 => ?_)<;>first|replace g4:=not_t g4|replace g4:=not_f g4
    · exact absurd hdn g4
    repeat first|(apply x1;apply r0;apply r0)|(apply x2;apply r0;(with_reducible repeat first|assumption|apply q0|apply q3);apply r0)|(apply x9;apply r0)|apply w6|apply w7|apply wa|apply w5
    refine parent_c hg.wf (by with_reducible repeat first|assumption|apply q0|apply q3) ?_
    repeat first|(apply x1;apply r0;apply r0)|apply w4|apply w6|apply w7|apply wb|apply w5
    generalize hY : AHeap.put _ b16 _ = Y
    have yT : Rd Y t (encTab T) := by rw [← hY]; exact (by apply rd_eq;(focus with_reducible repeat first|assumption|apply q0|apply q3);rfl)
    have y7 : Rd Y b7 (encCred c) := by rw [← hY]; exact (by apply rd_eq;(focus with_reducible repeat first|assumption|apply q0|apply q3);rfl)
    have y14 : Rd Y b14 (encF f) := by rw [← hY]; exact (by apply rd_eq;(focus with_reducible repeat first|assumption|apply q0|apply q3);rfl)
    have ys : H.sub Y := by rw [← hY]; exact (by repeat first|exact s0|(apply su1;assumption))
    clear hY
    refine aw_loop (fun k : Nat => k ≤ 24) (fun k => [(4, .b follow), (7, .ptr b7 0), (12, .ptr t 0), (14, .ptr b14 0), (18, .i (T.up k (T.parent f.dir))), (19, .i k)]) (fun _ => Y) (fun k => 24 - k) 0 (Nat.zero_le _) (by repeat (first | exact Fr.sub_nil _ | refine Fr.sub_cons rfl ?_)) (AHeap.sub_refl _) ?_
    intro k hk
    repeat first|(apply x1;apply r0;apply r0)|apply w6|apply w7
    refine s_gsplit rfl rfl (fun v1 => ?_) (fun v1 => ?_)<;>first|replace v1:=of_decide_eq_true v1|replace v1:=of_decide_eq_false v1
    case refine_2 =>
      have hk24 : k = 24 := by omega
      have hz : T.up k (T.parent f.dir) = 0 := by rw [hk24]; exact hup
      rw [hz]
      repeat first|(apply gO;first|(apply x1;apply r0;apply r0)|(apply x2;apply r0;(with_reducible assumption);apply r0)|(apply x9;apply r0)|apply w4|(apply w3;apply r0;apply r0))|(apply gW;first|apply w6|apply w7|(apply w9;apply r0)|apply wc)|apply w5|apply wf|apply wh
      refine tget_c hg.wf (by with_reducible assumption) ?_
      repeat (apply x1;apply r0;apply r0)
      refine s_alloc tk rfl rfl rfl (fun b20 hb20 => ?_); have hb := hb20; (try simp only [put_none_iff, prot_none_iff] at hb); (repeat obtain ⟨_, _, hb⟩ := hb)
      repeat first|(apply x1;apply r0;apply r0)|(apply xst;apply r0;(apply ps);apply r0)|(apply x5;apply r0)|apply w4|apply w6|apply w7|apply w5
      cases follow
      · repeat first|(apply x1;apply r0;apply r0)|(apply x5;apply r0)|apply w4|(apply w3;apply r0;apply r0)|apply wd|apply w5
        exact rt1 (H' := H) rfl rfl (.refl _) (by repeat first|assumption|(apply su3;assumption;assumption)) hK
      repeat first|(apply x1;apply r0;apply r0)|(apply x2;apply r0;(apply q0);apply r0)|(apply x5;apply r0)
      refine s_gsplit rfl rfl (fun v3 => ?_) (fun v3 => ?_)<;>first|replace v3:=not_t v3|replace v3:=not_f v3
      case refine_1 =>
        repeat first|(apply x1;apply r0;apply r0)|(apply x5;apply r0)|apply w4|(apply w3;apply r0;apply r0)|apply wd|apply w5
        exact rt1 (H' := H) rfl rfl (.refl _) (by repeat first|assumption|(apply su3;assumption;assumption)) hK
      repeat first|(apply x1;apply r0;apply r0)|(apply x2;apply r0;(with_reducible repeat first|assumption|apply q3|exact n1 ‹_› ‹_›);apply r0)|(apply x5;apply r0)|apply w4|apply wd|apply w5
      by_cases v4 : f.name = ⟨#[]⟩
      · rw [decide_eq_true v4]
        exact rt1 (H' := H) rfl rfl (.refl _) (by repeat first|assumption|(apply su3;assumption;assumption)) hK
      exact absurd v3 (hfin2 rfl v4)
    repeat first|(apply x1;apply r0;apply r0)|(apply x5;apply r0)|apply w4|apply w5
    refine aw_cond rfl (fun v2 => ?_) (fun v2 => ?_)<;>first|replace v2:=not_t v2|replace v2:=not_f v2
    case refine_2 =>
      have hz : T.up k (T.parent f.dir) = 0 := v2
      rw [hz]
      repeat first|(apply gO;first|(apply x1;apply r0;apply r0)|(apply x2;apply r0;(with_reducible assumption);apply r0)|(apply x9;apply r0))|(apply gW;first|apply w6|apply w7|apply wc)|apply w5|apply wf|apply wh
      refine tget_c hg.wf (by with_reducible assumption) ?_
      repeat (apply x1;apply r0;apply r0)
      refine s_alloc tk rfl rfl rfl (fun b20 hb20 => ?_); have hb := hb20; (try simp only [put_none_iff, prot_none_iff] at hb); (repeat obtain ⟨_, _, hb⟩ := hb)
      repeat first|(apply x1;apply r0;apply r0)|(apply xst;apply r0;(apply ps);apply r0)|(apply x5;apply r0)|apply w4|apply w6|apply w7|apply w5
      cases follow
      · repeat first|(apply x1;apply r0;apply r0)|(apply x5;apply r0)|apply w4|(apply w3;apply r0;apply r0)|apply wd|apply w5
        exact rt1 (H' := H) rfl rfl (.refl _) (by repeat first|assumption|(apply su3;assumption;assumption)) hK
      repeat first|(apply x1;apply r0;apply r0)|(apply x2;apply r0;(apply q0);apply r0)|(apply x5;apply r0)
      refine s_gsplit rfl rfl (fun v3 => ?_) (fun v3 => ?_)<;>first|replace v3:=not_t v3|replace v3:=not_f v3
      case refine_1 =>
        repeat first|(apply x1;apply r0;apply r0)|(apply x5;apply r0)|apply w4|(apply w3;apply r0;apply r0)|apply wd|apply w5
        exact rt1 (H' := H) rfl rfl (.refl _) (by repeat first|assumption|(apply su3;assumption;assumption)) hK
      repeat first|(apply x1;apply r0;apply r0)|(apply x2;apply r0;(with_reducible repeat first|assumption|apply q3|exact n1 ‹_› ‹_›);apply r0)|(apply x5;apply r0)|apply w4|apply wd|apply w5
      by_cases v4 : f.name = ⟨#[]⟩
      · rw [decide_eq_true v4]
        exact rt1 (H' := H) rfl rfl (.refl _) (by repeat first|assumption|(apply su3;assumption;assumption)) hK
      exact absurd v3 (hfin2 rfl v4)
    have hcan1 := hanc k v2
    repeat first|(apply gO;first|(apply x1;apply r0;apply r0)|(apply x2;apply r0;(with_reducible assumption);apply r0)|(apply x9;apply r0))|(apply gW;first|apply w6|apply w7|apply wa|apply wb)|apply w5
    refine can1_c hg.wf hc (by with_reducible assumption) ?_
    rw [show T.can c (T.up k (T.parent f.dir)) 1 = true from hcan1]
    repeat first|(apply x1;apply r0;apply r0)|(apply x9;apply r0)|apply w4|apply w7|(apply w9;apply r0)|apply wa|apply w5
    refine parent_c hg.wf (by with_reducible assumption) ?_
    rw [← up_succ]
    repeat first|(apply x1;apply r0;apply r0)|apply w4|(apply x6;apply r0;omega)|apply w7|apply w5|apply wg
    exact ⟨k + 1, by omega, by omega, (by repeat (first | exact Fr.sub_nil _ | refine Fr.sub_cons rfl ?_)), s0⟩
  · rcases hfin with ⟨hn, hdn⟩ | ⟨hn, hcan, hfind, _⟩
    case inl => exact absurd hn g3
    repeat apply w6
    refine aw_prot [b7, b14, b16, t] (allc (by with_reducible repeat first|assumption|apply q0|apply q3) (allc (by with_reducible repeat first|assumption|apply q0|apply q3) (allc (by apply q0) (allc (by with_reducible repeat first|assumption|apply q0|apply q3) (allc0 _))))) ?_
    refine aw_plan mixed (.take 0 (.take 1 (.take 2 (.take 3 (.take 4 (.take 5 (.take 6 (.take 7 (.one 8 (.take 9 (.take 10 (.take 11 (.take 12 (.take 13 (.take 14 (.take 16 (.take 17 (.one 15 (.take 18 (.take 19 .done)))))))))))))))))))) (by kernel_rfl) ?_
    repeat first|(apply y1;apply r0;apply r0)|(apply y2;apply r0;apply r0;(with_reducible repeat first|apply q0|apply pg|exact mm0|apply mm1);apply r0)
    refine d_split rfl rfl rfl (fun e1 => ?_) (fun e1 => ?_)<;>first|replace e1:=not_t e1|replace e1:=not_f e1
    case refine_1 => exact (e1 hkd).elim
    repeat first|(apply x5;apply r0)|(apply x9;apply r0)|(apply take1_ok;apply r0)|(apply y4;apply r0)|(apply y2;apply r0;apply r0;(with_reducible repeat first|assumption|apply q0|apply pg|apply q3|exact mm0|apply mm1);apply r0)
    refine can1_c hg.wf hc (by with_reducible repeat first|assumption|apply q0|apply q4|apply q3) ?_
    rw [hcan]
    repeat first|(apply x5;apply r0)|(apply x9;apply r0)|apply w4|(apply y1;apply r0;apply r0)|(apply take1_ok;apply r0)|(apply y4;apply r0)|(apply y2;apply r0;apply r0;(with_reducible repeat first|assumption|apply q0|apply pg|apply q3|exact mm0|apply mm1);apply r0)
    refine find_c (at_few hg _).small ?_
    rw [hfind]
    repeat first|apply w4|(apply y1;apply r0;apply r0)|apply y0|(apply take1_ok;apply r0)
    refine prot_done ?_
    repeat apply w5
    refine aw_cond rfl (fun g5 => ?_) (fun g5 => ?_)<;>first|replace g5:=not_t g5|replace g5:=not_f g5
    · simp at g5
    repeat first|(apply x1;apply r0;apply r0)|(apply x2;apply r0;(with_reducible repeat first|assumption|apply q0|apply q3);apply r0)|(apply x9;apply r0)|apply w6|apply w7|apply wa|apply w5
    refine parent_c hg.wf (by with_reducible repeat first|assumption|apply q0|apply q3) ?_
    repeat first|(apply x1;apply r0;apply r0)|apply w4|apply w6|apply w7|apply wb|apply w5
    generalize hY : AHeap.put _ b16 _ = Y
    have yT : Rd Y t (encTab T) := by rw [← hY]; exact (by apply rd_eq;(focus with_reducible repeat first|assumption|apply q0|apply q3);rfl)
    have y7 : Rd Y b7 (encCred c) := by rw [← hY]; exact (by apply rd_eq;(focus with_reducible repeat first|assumption|apply q0|apply q3);rfl)
    have y14 : Rd Y b14 (encF f) := by rw [← hY]; exact (by apply rd_eq;(focus with_reducible repeat first|assumption|apply q0|apply q3);rfl)
    have ys : H.sub Y := by rw [← hY]; exact (by repeat first|exact s0|(apply su1;assumption))
    clear hY
    refine aw_loop (fun k : Nat => k ≤ 24) (fun k => [(4, .b follow), (7, .ptr b7 0), (12, .ptr t 0), (14, .ptr b14 0), (18, .i (T.up k (T.parent f.dir))), (19, .i k)]) (fun _ => Y) (fun k => 24 - k) 0 (Nat.zero_le _) (by repeat (first | exact Fr.sub_nil _ | refine Fr.sub_cons rfl ?_)) (AHeap.sub_refl _) ?_
    intro k hk
    repeat first|(apply x1;apply r0;apply r0)|apply w6|apply w7
    refine s_gsplit rfl rfl (fun v1 => ?_) (fun v1 => ?_)<;>first|replace v1:=of_decide_eq_true v1|replace v1:=of_decide_eq_false v1
    case refine_2 =>
      have hk24 : k = 24 := by omega
      have hz : T.up k (T.parent f.dir) = 0 := by rw [hk24]; exact hup
      rw [hz]
      repeat first|(apply gO;first|(apply x1;apply r0;apply r0)|(apply x2;apply r0;(with_reducible assumption);apply r0)|(apply x9;apply r0)|apply w4|(apply w3;apply r0;apply r0))|(apply gW;first|apply w6|apply w7|(apply w9;apply r0)|apply wc)|apply w5|apply wf|apply wh
      refine tget_c hg.wf (by with_reducible assumption) ?_
      repeat (apply x1;apply r0;apply r0)
      refine s_alloc tk rfl rfl rfl (fun b20 hb20 => ?_); have hb := hb20; (try simp only [put_none_iff, prot_none_iff] at hb); (repeat obtain ⟨_, _, hb⟩ := hb)
      repeat first|(apply x1;apply r0;apply r0)|(apply xst;apply r0;(apply ps);apply r0)|(apply x5;apply r0)|apply w4|apply w6|apply w7|apply w5
      cases follow
      · repeat first|(apply x1;apply r0;apply r0)|(apply x5;apply r0)|apply w4|(apply w3;apply r0;apply r0)|apply wd|apply w5
        exact rt1 (H' := H) rfl rfl (.refl _) (by repeat first|assumption|(apply su3;assumption;assumption)) hK
      repeat first|(apply x1;apply r0;apply r0)|(apply x2;apply r0;(apply q0);apply r0)|(apply x5;apply r0)
      refine s_gsplit rfl rfl (fun v3 => ?_) (fun v3 => ?_)<;>first|replace v3:=not_t v3|replace v3:=not_f v3
      case refine_1 =>
        repeat first|(apply x1;apply r0;apply r0)|(apply x5;apply r0)|apply w4|(apply w3;apply r0;apply r0)|apply wd|apply w5
        exact rt1 (H' := H) rfl rfl (.refl _) (by repeat first|assumption|(apply su3;assumption;assumption)) hK
      repeat first|(apply x1;apply r0;apply r0)|(apply x2;apply r0;(with_reducible repeat first|assumption|apply q3|exact n1 ‹_› ‹_›);apply r0)|(apply x5;apply r0)|apply w4|apply wd|apply w5
      by_cases v4 : f.name = ⟨#[]⟩
      · rw [decide_eq_true v4]
        exact rt1 (H' := H) rfl rfl (.refl _) (by repeat first|assumption|(apply su3;assumption;assumption)) hK
      exact absurd v3 (hfin2 rfl v4)
    repeat first|(apply x1;apply r0;apply r0)|(apply x5;apply r0)|apply w4|apply w5
    refine aw_cond rfl (fun v2 => ?_) (fun v2 => ?_)<;>first|replace v2:=not_t v2|replace v2:=not_f v2
    case refine_2 =>
      have hz : T.up k (T.parent f.dir) = 0 := v2
      rw [hz]
      repeat first|(apply gO;first|(apply x1;apply r0;apply r0)|(apply x2;apply r0;(with_reducible assumption);apply r0)|(apply x9;apply r0))|(apply gW;first|apply w6|apply w7|apply wc)|apply w5|apply wf|apply wh
      refine tget_c hg.wf (by with_reducible assumption) ?_
      repeat (apply x1;apply r0;apply r0)
      refine s_alloc tk rfl rfl rfl (fun b20 hb20 => ?_); have hb := hb20; (try simp only [put_none_iff, prot_none_iff] at hb); (repeat obtain ⟨_, _, hb⟩ := hb)
      repeat first|(apply x1;apply r0;apply r0)|(apply xst;apply r0;(apply ps);apply r0)|(apply x5;apply r0)|apply w4|apply w6|apply w7|apply w5
      cases follow
      · repeat first|(apply x1;apply r0;apply r0)|(apply x5;apply r0)|apply w4|(apply w3;apply r0;apply r0)|apply wd|apply w5
        exact rt1 (H' := H) rfl rfl (.refl _) (by repeat first|assumption|(apply su3;assumption;assumption)) hK
      repeat first|(apply x1;apply r0;apply r0)|(apply x2;apply r0;(apply q0);apply r0)|(apply x5;apply r0)
      refine s_gsplit rfl rfl (fun v3 => ?_) (fun v3 => ?_)<;>first|replace v3:=not_t v3|replace v3:=not_f v3
      case refine_1 =>
        repeat first|(apply x1;apply r0;apply r0)|(apply x5;apply r0)|apply w4|(apply w3;apply r0;apply r0)|apply wd|apply w5
        exact rt1 (H' := H) rfl rfl (.refl _) (by repeat first|assumption|(apply su3;assumption;assumption)) hK
      repeat first|(apply x1;apply r0;apply r0)|(apply x2;apply r0;(with_reducible repeat first|assumption|apply q3|exact n1 ‹_› ‹_›);apply r0)|(apply x5;apply r0)|apply w4|apply wd|apply w5
      by_cases v4 : f.name = ⟨#[]⟩
      · rw [decide_eq_true v4]
        exact rt1 (H' := H) rfl rfl (.refl _) (by repeat first|assumption|(apply su3;assumption;assumption)) hK
      exact absurd v3 (hfin2 rfl v4)
    have hcan1 := hanc k v2
    repeat first|(apply gO;first|(apply x1;apply r0;apply r0)|(apply x2;apply r0;(with_reducible assumption);apply r0)|(apply x9;apply r0))|(apply gW;first|apply w6|apply w7|apply wa|apply wb)|apply w5
    refine can1_c hg.wf hc (by with_reducible assumption) ?_
    rw [show T.can c (T.up k (T.parent f.dir)) 1 = true from hcan1]
    repeat first|(apply x1;apply r0;apply r0)|(apply x9;apply r0)|apply w4|apply w7|(apply w9;apply r0)|apply wa|apply w5
    refine parent_c hg.wf (by with_reducible assumption) ?_
    rw [← up_succ]
    repeat first|(apply x1;apply r0;apply r0)|apply w4|(apply x6;apply r0;omega)|apply w7|apply w5|apply wg
    exact ⟨k + 1, by omega, by omega, (by repeat (first | exact Fr.sub_nil _ | refine Fr.sub_cons rfl ?_)), s0⟩
end Abs
end Go.Proofs.Ytmokoofibnoojaa
