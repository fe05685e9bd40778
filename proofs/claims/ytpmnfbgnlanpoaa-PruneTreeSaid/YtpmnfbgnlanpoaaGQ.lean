import Derived.Test.YtpmnfbgnlanpoaaGI
import Derived.Test.YtpmnfbgnlanpoaaGL
import Derived.Test.YtpmnfbgnlanpoaaY1
set_option linter.unusedVariables false
namespace Go.Proofs.Ytpmnfbgnlanpoaa
namespace Abs
def noEnts (n : Node) : Node := { n with ents := [] }
structure StaysT (T : Tab) (R : Tab × Int) : Prop where
  err : ¬ R.2 = 0 → R.1 = T
  tree : R.2 = 0 → R.1.tree
  used : R.2 = 0 → R.1.used ≤ T.used ∧ T.used - 1 ≤ R.1.used
  same : R.2 = 0 → ∀ i, R.1.has i = true → T.has i = true ∧ noEnts (R.1.at i) = noEnts (T.at i)
theorem stays_err {T : Tab} {e : Int} (h : ¬ e = 0) : StaysT T (T, e) := ⟨fun _ => rfl, fun q => absurd q h, fun q => absurd q h, fun q => absurd q h⟩
theorem stays_gone {T U : Tab} {f : Found} (h : Gone T U f) : StaysT T (U, 0) := by
  refine ⟨fun q => absurd rfl q, fun _ => h.tree, fun _ => ?_, fun _ i hi => ?_⟩
  · have := h.used
    show U.used ≤ T.used ∧ T.used - 1 ≤ U.used
    rw [this]; split <;> omega
  · have hk := has_kind'.1 hi
    show T.has i = true ∧ noEnts (U.at i) = noEnts (T.at i)
    replace hk : (U.at i).kind ≠ 0 := hk
    rw [h.at_] at hk ⊢
    split at hk
    · exact absurd rfl hk
    · rename_i z
      rw [if_neg z]
      split at hk
      · rename_i y
        rw [if_pos y, y]
        exact ⟨has_kind'.2 hk, rfl⟩
      · rename_i y
        rw [if_neg y]
        exact ⟨has_kind'.2 hk, rfl⟩
theorem stays_moved {T U : Tab} {p q : Found} (h : MovedTo T U p q) : StaysT T (U, 0) := by
  refine ⟨fun q => absurd rfl q, fun _ => h.tree, fun _ => ?_, fun _ i hi => ?_⟩
  · have := h.used
    show U.used ≤ T.used ∧ T.used - 1 ≤ U.used
    rw [this]; split <;> omega
  · have hk := has_kind'.1 hi
    show T.has i = true ∧ noEnts (U.at i) = noEnts (T.at i)
    replace hk : (U.at i).kind ≠ 0 := hk
    have hz : ¬ (i = q.node ∧ q.node ≠ 0 ∧ T.links q.node = 1) := fun z => hk (by rw [z.1, h.gone z.2]; rfl)
    obtain ⟨l, hl⟩ := h.same i hz
    rw [hl] at hk ⊢
    exact ⟨has_kind'.2 hk, rfl⟩
theorem unlink_stays {T : Tab} (hg : T.good) (ht : T.tree) (c : Cred) (path : ByteArray) : StaysT T (T.unlinkF c (T.resolve c path false) []) := by
  by_cases h : T.pfindE c (T.resolve c path false) = 0
  · obtain ⟨a1, a2, a3, -⟩ := pfind_zero h
    have hP := take_at hg ht a1 a2 a3
    by_cases hk : (T.at (T.resolve c path false).1.node).kind = 2
    · unfold Tab.unlinkF
      rw [if_neg (fun z => z h), if_pos hk]
      exact stays_err (by decide)
    · obtain ⟨e, he⟩ := unlink_gone hg ht h hP hk
      rw [e]; exact stays_gone (gone_facts hg ht hP he)
  · unfold Tab.unlinkF
    rw [if_pos h]; exact stays_err h
theorem rmdir_stays {T : Tab} (hg : T.good) (ht : T.tree) (c : Cred) (path : ByteArray) : StaysT T (T.rmdirF c (T.resolve c path false)) := by
  by_cases h : T.pfindE c (T.resolve c path false) = 0
  · obtain ⟨a1, a2, a3, -⟩ := pfind_zero h
    have hP := take_at hg ht a1 a2 a3
    by_cases hk : (T.at (T.resolve c path false).1.node).kind = 2
    · by_cases he : 0 < ((T.at (T.resolve c path false).1.node).ents.length : Int)
      · unfold Tab.rmdirF
        rw [if_neg (fun z => z h), if_neg (fun z => z hk), if_pos he]
        exact stays_err (by decide)
      · obtain ⟨e, he'⟩ := rmdir_gone hg ht h hP hk he
        rw [e]; exact stays_gone (gone_facts hg ht hP he')
    · unfold Tab.rmdirF
      rw [if_neg (fun z => z h), if_pos hk]
      exact stays_err (by decide)
  · unfold Tab.rmdirF
    rw [if_pos h]; exact stays_err h
theorem rename_to {T : Tab} (hg : T.good) (ht : T.tree) {c : Cred} {fr tg : ByteArray} {p q : Found × Int} (hp : p = T.resolve c fr false) (hq : q = T.resolve c tg false) (h : T.renameE c p q = 0) (hd : ¬ q.1.node = p.1.node) : T.renameF c p q [] = (T.movedT p.1 q.1, 0) ∧ MovedTo T (T.movedT p.1 q.1) p.1 q.1 := by
  have hm := moved_facts hg ht (move_facts hg ht hp hq h hd)
  rw [renameF_move hg ht hp hq [] h hd, hm.2]
  exact ⟨rfl, hm.1⟩
theorem rename_stays {T : Tab} (hg : T.good) (ht : T.tree) (c : Cred) (fr tg : ByteArray) : StaysT T (T.renameF c (T.resolve c fr false) (T.resolve c tg false) []) := by
  obtain ⟨q, hq⟩ : ∃ q, q = T.resolve c tg false := ⟨_, rfl⟩
  obtain ⟨p, hp⟩ : ∃ p, p = T.resolve c fr false := ⟨_, rfl⟩
  rw [← hp, ← hq]
  by_cases h : T.renameE c p q = 0
  · by_cases hd : q.1.node = p.1.node
    · rw [renameF_same [] h hd]
      exact ⟨fun q => absurd rfl q, fun _ => ht, fun _ => ⟨Int.le_refl _, by show T.used - 1 ≤ T.used; omega⟩, fun _ i hi => ⟨hi, rfl⟩⟩
    · obtain ⟨e, hm⟩ := rename_to hg ht hp hq h hd
      rw [e]; exact stays_moved hm
  · rw [renameF_err [] h]; exact stays_err h
theorem used_rng {T : Tab} (hg : T.good) : 0 ≤ T.used ∧ T.used ≤ 24 := by
  have h1 := cnt_le T T.room.toNat
  have h2 := hg.wf.2.1
  unfold Tab.used
  omega
theorem noEnts_small {n : Node} (h : n.small) : (noEnts n).small := ⟨h.1, Nat.zero_le _⟩
theorem sameTo_selfQ (T : Tab) : ∀ k : Nat, T.sameTo T k = true
  | 0 => rfl
  | k + 1 => by simp only [Tab.sameTo, sameTo_selfQ T k, same_refl, Bool.and_self]
theorem same_selfQ (T : Tab) : T.same T = true := sameTo_selfQ T 24
end Abs
end Go.Proofs.Ytpmnfbgnlanpoaa

set_option linter.unusedVariables false
namespace Go.Proofs.Ytpmnfbgnlanpoaa
namespace Abs
set_option linter.unusedSimpArgs false
set_option maxRecDepth 10000
set_option maxHeartbeats 2000000
attribute [local irreducible] AOps AW AP ACalls thenQ inBlk noGoto

/-! ### PruneTree -/
theorem pruneTree_c {room : Int} {l : List Raw} (hl : l.length ≤ 9223372036854775807) {c : Cred} {fr tg : ByteArray} {kd : Int} (hkd : 0 ≤ kd ∧ kd ≤ 255) {H : AHeap} {K : AVal → AHeap → Prop} (hK : K (.b true) H) :
    ACalls Try.prog 7 [.i room, .sl (encRaws l) .no, .agg (encCred c), .s fr, .s tg, .sc (.int .u8 kd)] H K := by
  refine acalls_body Try.func7 rfl rfl rfl ?_
  repeat first|apply w6|apply w7
  refine s_box rfl rfl rfl (fun b8 hb8 => ?_); have hb := hb8; (try simp only [put_none_iff, prot_none_iff] at hb); (repeat obtain ⟨_, _, hb⟩ := hb)
  repeat first|(apply x1;apply r0;apply r0)|(apply x9;apply r0)|apply w4|apply w6|apply w7|apply w5
  refine awake15_c ?_
  repeat first|(apply gO;first|(apply x1;apply r0;apply r0)|(apply x2;apply r0;(apply q0);apply r0)|(apply x9;apply r0)|apply w4)|(apply gW;first|apply w6|apply w7|(apply w9;apply r0)|apply wa)|apply w5
  refine built15_c hl ?_ (fun T t hB ht => ?_)
  · repeat first|(apply gO;first|(apply x1;apply r0;apply r0)|apply w4|(apply w3;apply r0;apply r0))|(apply gW;first|apply w6|apply w7|(apply w8;apply r0)|apply wd)|apply w5|apply we
    exact rt1 (H' := H) rfl rfl (.refl _) (by repeat first|exact s0|(apply su1;assumption)) hK
  have hg := hB.good
  have hc := hB.small
  have htr := build_tree hB.tree
  have nb7 : b8 ≠ t := by
    have := (put_none_iff.1 ht)
    exact this.2.1
  have ht' : H t = none := (put_none_iff.1 ht).2.2
  repeat first|(apply x1;apply r0;apply r0)|(apply x5;apply r0)|apply w4|apply w6|apply w7|apply w5
  refine s_gsplit rfl rfl (fun g1 => ?_) (fun g1 => ?_)<;>first|replace g1:=of_decide_eq_true g1|replace g1:=of_decide_eq_false g1
  · repeat first|(apply gO;first|(apply x1;apply r0;apply r0)|apply w4|(apply w3;apply r0;apply r0))|(apply gW;first|apply w6|apply w7|(apply w8;apply r0)|apply wd)|apply w5|apply we
    exact rt1 (H' := H) rfl rfl (.refl _) (by repeat first|exact s0|(apply su1;assumption)) hK
  repeat first|(apply x1;apply r0;apply r0)|(apply x5;apply r0)|apply w4|apply w5
  refine aw_cond rfl (fun g2 => ?_) (fun g2 => ?_)<;>first|replace g2:=of_decide_eq_true g2|replace g2:=of_decide_eq_false g2
  · repeat first|(apply x1;apply r0;apply r0)|apply w4|apply w6|apply w7|apply wd|apply w5|apply we
    exact rt1 (H' := H) rfl rfl (.refl _) (by repeat first|exact s0|(apply su1;assumption)) hK
  repeat first|(apply x1;apply r0;apply r0)|(apply x9;apply r0)|apply w6|apply w7|apply wa|apply w5
  refine clone_c hg.wf (by apply q0) (fun u hu => ?_)
  generalize hX : AHeap.put _ t _ = X at hu ⊢
  have xT' : X t = some (.cells (encTab T)) := by rw [← hX]; exact (by apply get_eq;(focus apply ps);rfl)
  have x9' : Rd X b8 (encCred c) := by rw [← hX]; exact (by apply rd_eq;(focus with_reducible repeat first|assumption|apply q0|apply q3);rfl)
  have xss : H.sub X := by rw [← hX]; exact (by repeat first|exact s0|(apply su1;assumption))
  clear hX
  have fu : H u = none := sub_none xss hu
  have ntu : t ≠ u := get_ne xT' hu
  have nut : u ≠ t := Ne.symm ntu
  have n9u : b8 ≠ u := rd_ne x9' hu
  generalize hX2 : AHeap.put _ u _ = X2
  have zT2 : X2 t = some (.cells (encTab T)) := by rw [← hX2]; exact (by apply get_eq;(focus with_reducible repeat first|assumption|apply gp);rfl)
  have z92 : Rd X2 b8 (encCred c) := by rw [← hX2]; exact (by apply rd_eq;(focus with_reducible repeat first|assumption|apply q3);rfl)
  have zu2 : X2 u = some (.cells (encTab T)) := by rw [← hX2]; exact (by apply get_eq;(focus apply ps);rfl)
  have zs2 : H.sub X2 := by rw [← hX2]; exact (by repeat first|assumption|(apply su1;assumption))
  clear hX2
  repeat first|(apply x1;apply r0;apply r0)|apply w4|apply w6|apply w7|apply w5
  refine s_rem rfl rfl rfl (by decide) hkd.1 ?_
  repeat first|(apply x1;apply r0;apply r0)|apply w4|apply w6|apply w7|apply wb|apply w5
  refine aw_cond rfl (fun c0 => ?_) (fun c0 => ?_)<;>first|replace c0:=of_decide_eq_true c0|replace c0:=of_decide_eq_false c0
  · have hgR := good_unlink hg c (T.resolve c fr false) []
    have hS := unlink_stays hg htr c fr
    repeat first|(apply x1;apply r0;apply r0)|(apply x2;apply r0;(with_reducible assumption);apply r0)|(apply x9;apply r0)|apply w7
    refine unlink_c (op := []) hg hc (Nat.zero_le _) (by with_reducible assumption) ?_
    generalize T.unlinkF c (T.resolve c fr false) [] = R at hgR hS ⊢
    repeat first|(apply x1;apply r0;apply r0)|apply w4|apply w6|apply w7|apply w5|apply wg
    refine aw_cond rfl (fun g3 => ?_) (fun g3 => ?_)<;>first|replace g3:=not_t g3|replace g3:=not_f g3
    · repeat first|(apply x1;apply r0;apply r0)|(apply x9;apply r0)|apply w6|apply w7
      refine tsame_c hgR.wf hg.wf (by apply q0) (by with_reducible repeat first|assumption|exact q1 ‹_›|apply q3) ?_
      rw [hS.err g3, same_selfQ]
      repeat first|(apply x1;apply r0;apply r0)|apply w4|apply wd|apply w5|apply we
      exact rt1 (H' := H) rfl rfl (.refl _) (by repeat first|assumption|(apply su1;assumption)) hK
    have g3' : R.2 = 0 := g3
    have hrt : R.1.right [] = true := (right_iff hgR).2 (hS.tree g3')
    obtain ⟨hu1, hu2⟩ := hS.used g3'
    have hur := used_rng hg
    have hus := hS.same g3'
    have h24 := hgR.wf.2.1
    repeat first|(apply x1;apply r0;apply r0)|(apply x9;apply r0)|apply w6|apply w7|apply wa|apply w5
    refine tright_c (op := []) hgR.wf (Nat.zero_le _) (by apply q0) ?_
    rw [hrt]
    repeat first|(apply x1;apply r0;apply r0)|(apply x5;apply r0)|(apply x9;apply r0)
    refine used_c hgR.wf (by apply q0) ?_
    repeat first|(apply x1;apply r0;apply r0)|(apply x5;apply r0)|(apply x9;apply r0)
    refine used_c hg.wf (by with_reducible repeat first|assumption|exact q1 ‹_›|apply q3) ?_
    repeat first|(apply x1;apply r0;apply r0)|(apply x5;apply r0)
    refine s_gsplit rfl rfl (fun v1 => ?_) (fun v1 => ?_)<;>first|replace v1:=of_decide_eq_true v1|replace v1:=of_decide_eq_false v1
    · exact absurd v1 (by omega)
    repeat first|(apply x1;apply r0;apply r0)|(apply x5;apply r0)|(apply x9;apply r0)
    refine used_c hgR.wf (by apply q0) ?_
    repeat first|(apply x1;apply r0;apply r0)|(apply x5;apply r0)|(apply x9;apply r0)
    refine used_c hg.wf (by with_reducible repeat first|assumption|exact q1 ‹_›|apply q3) ?_
    repeat first|(apply x1;apply r0;apply r0)|(apply x5;apply r0)|apply w4|(apply x7;apply r0;omega)|apply w5
    refine aw_cond rfl (fun v2 => ?_) (fun v2 => ?_)<;>first|replace v2:=of_decide_eq_true v2|replace v2:=of_decide_eq_false v2
    · exact absurd v2 (by omega)
    repeat first|(apply x1;apply r0;apply r0)|apply w4|apply w6|apply w7|apply wa|apply wb|apply w5
    generalize hY : AHeap.put _ t _ = Y
    have yT : Rd Y t (encTab R.1) := by rw [← hY]; exact (by apply rd_eq;(focus apply q0);rfl)
    have yU : Rd Y u (encTab T) := by rw [← hY]; exact (by apply rd_eq;(focus with_reducible repeat first|assumption|exact q1 ‹_›|apply q3);rfl)
    have ys : H.sub Y := by rw [← hY]; exact (by repeat first|assumption|(apply su1;assumption))
    clear hY
    refine aw_loop (fun k : Nat => k = 0 ∨ (k : Int) ≤ R.1.room) (fun k => [(14, .ptr t 0), (16, .ptr u 0), (18, .i ((k : Int) + 1))]) (fun _ => Y) (fun k => R.1.room.toNat - k) 0 (.inl rfl) (by repeat (first | exact Fr.sub_nil _ | refine Fr.sub_cons rfl ?_)) (AHeap.sub_refl _) ?_
    intro k hk
    repeat first|(apply x1;apply r0;apply r0)|(apply x9;apply r0)|apply w6|apply w7
    refine room_c (by with_reducible assumption) ?_
    repeat first|(apply x1;apply r0;apply r0)|apply w4|apply w5
    refine aw_cond rfl (fun c1 => ?_) (fun c1 => ?_)<;>first|replace c1:=of_decide_eq_true c1|replace c1:=of_decide_eq_false c1
    case refine_2 =>
      repeat first|(apply gO;first|(apply x1;apply r0;apply r0)|apply w4)|(apply gW;first|apply w6|apply w7|apply wd|apply wc)|apply w5|apply wf|apply wh
      exact rt1 (H' := H) rfl rfl (.refl _) (by repeat assumption) hK
    have c1' : (k : Int) + 1 ≤ R.1.room := by omega
    have hkk : (((k + 1 : Nat) : Int)) = (k : Int) + 1 := by omega
    have sa := noEnts_small (at_few hg ((k : Int) + 1)).small
    repeat first|(apply x1;apply r0;apply r0)|(apply x9;apply r0)|apply w6|apply w7|apply wa|apply wb|apply w5
    refine tget_c hg.wf (by with_reducible assumption) ?_
    repeat (apply x1;apply r0;apply r0)
    refine s_alloc tk rfl rfl rfl (fun b19 hb19 => ?_); have hb := hb19; (try simp only [put_none_iff, prot_none_iff] at hb); (repeat obtain ⟨_, _, hb⟩ := hb)
    repeat first|(apply x1;apply r0;apply r0)|(apply xst;apply r0;(apply ps);apply r0)|(apply x9;apply r0)|apply w4|apply w6|apply w7|apply w5
    refine tget_c hgR.wf (by with_reducible repeat first|assumption|apply q3|exact n1 ‹_› ‹_›) ?_
    repeat (apply x1;apply r0;apply r0)
    refine s_alloc tk rfl rfl rfl (fun b21 hb21 => ?_); have hb := hb21; (try simp only [put_none_iff, prot_none_iff] at hb); (repeat obtain ⟨_, _, hb⟩ := hb)
    repeat first|(apply x1;apply r0;apply r0)|(apply xst;apply r0;(with_reducible repeat first|assumption|apply ps|apply gp);apply r0)|apply w4|apply w6|apply w7|apply w5
    cases hh : R.1.has ((k : Int) + 1) with
    | false =>
      repeat first|(apply gO;first|(apply x1;apply r0;apply r0)|apply w4|(apply w3;apply r0;apply r0)|(apply x6;apply r0;omega))|(apply gW;first|apply w7|(apply w9;apply r0)|apply wa)|apply w5|apply wg
      exact ⟨k + 1, by omega, by omega, (by repeat (first | exact Fr.sub_nil _ | refine Fr.sub_cons rfl ?_)), (by repeat first|exact s0|(apply su1;assumption))⟩
    | true =>
      obtain ⟨i1', i2'⟩ := hus _ hh
      rw [i1']
      repeat first|(apply x1;apply r0;apply r0)|(apply x2;apply r0;(with_reducible repeat first|assumption|apply q0|apply q3);apply r0)|(apply x5;apply r0)|(apply x9;apply r0)
      refine ACalls.wk (same_c (a := noEnts (T.at ((k : Int) + 1))) (b := noEnts (R.1.at ((k : Int) + 1))) sa ?_) (.pair (wk_agg rfl) (wk_agg rfl))
      rw [i2', same_refl]
      repeat first|(apply gO;first|(apply x1;apply r0;apply r0)|(apply x5;apply r0)|apply w4|(apply x6;apply r0;omega))|(apply gW;first|apply w7|(apply w9;apply r0)|apply wa)|apply w5|apply wg
      exact ⟨k + 1, by omega, by omega, (by repeat (first | exact Fr.sub_nil _ | refine Fr.sub_cons rfl ?_)), (by repeat first|exact s0|(apply su1;assumption))⟩
  repeat first|(apply x1;apply r0;apply r0)|apply w4|apply w6|apply w7|apply w5
  refine aw_cond rfl (fun c2 => ?_) (fun c2 => ?_)<;>first|replace c2:=of_decide_eq_true c2|replace c2:=of_decide_eq_false c2
  · have hgR := good_rmdir hg c (T.resolve c fr false)
    have hS := rmdir_stays hg htr c fr
    repeat first|(apply x1;apply r0;apply r0)|(apply x2;apply r0;(with_reducible assumption);apply r0)|(apply x9;apply r0)|apply w7
    refine rmdir_c hg hc (by with_reducible assumption) ?_
    generalize T.rmdirF c (T.resolve c fr false) = R at hgR hS ⊢
    repeat first|(apply x1;apply r0;apply r0)|apply w4|apply w6|apply w7|apply w5|apply wg
    refine aw_cond rfl (fun g3 => ?_) (fun g3 => ?_)<;>first|replace g3:=not_t g3|replace g3:=not_f g3
    · repeat first|(apply x1;apply r0;apply r0)|(apply x9;apply r0)|apply w6|apply w7
      refine tsame_c hgR.wf hg.wf (by apply q0) (by with_reducible repeat first|assumption|exact q1 ‹_›|apply q3) ?_
      rw [hS.err g3, same_selfQ]
      repeat first|(apply x1;apply r0;apply r0)|apply w4|apply wd|apply w5|apply we
      exact rt1 (H' := H) rfl rfl (.refl _) (by repeat first|assumption|(apply su1;assumption)) hK
    have g3' : R.2 = 0 := g3
    have hrt : R.1.right [] = true := (right_iff hgR).2 (hS.tree g3')
    obtain ⟨hu1, hu2⟩ := hS.used g3'
    have hur := used_rng hg
    have hus := hS.same g3'
    have h24 := hgR.wf.2.1
    repeat first|(apply x1;apply r0;apply r0)|(apply x9;apply r0)|apply w6|apply w7|apply wa|apply w5
    refine tright_c (op := []) hgR.wf (Nat.zero_le _) (by apply q0) ?_
    rw [hrt]
    repeat first|(apply x1;apply r0;apply r0)|(apply x5;apply r0)|(apply x9;apply r0)
    refine used_c hgR.wf (by apply q0) ?_
    repeat first|(apply x1;apply r0;apply r0)|(apply x5;apply r0)|(apply x9;apply r0)
    refine used_c hg.wf (by with_reducible repeat first|assumption|exact q1 ‹_›|apply q3) ?_
    repeat first|(apply x1;apply r0;apply r0)|(apply x5;apply r0)
    refine s_gsplit rfl rfl (fun v1 => ?_) (fun v1 => ?_)<;>first|replace v1:=of_decide_eq_true v1|replace v1:=of_decide_eq_false v1
    · exact absurd v1 (by omega)
    repeat first|(apply x1;apply r0;apply r0)|(apply x5;apply r0)|(apply x9;apply r0)
    refine used_c hgR.wf (by apply q0) ?_
    repeat first|(apply x1;apply r0;apply r0)|(apply x5;apply r0)|(apply x9;apply r0)
    refine used_c hg.wf (by with_reducible repeat first|assumption|exact q1 ‹_›|apply q3) ?_
    repeat first|(apply x1;apply r0;apply r0)|(apply x5;apply r0)|apply w4|(apply x7;apply r0;omega)|apply w5
    refine aw_cond rfl (fun v2 => ?_) (fun v2 => ?_)<;>first|replace v2:=of_decide_eq_true v2|replace v2:=of_decide_eq_false v2
    · exact absurd v2 (by omega)
    repeat first|(apply x1;apply r0;apply r0)|apply w4|apply w6|apply w7|apply wa|apply wb|apply w5
    generalize hY : AHeap.put _ t _ = Y
    have yT : Rd Y t (encTab R.1) := by rw [← hY]; exact (by apply rd_eq;(focus apply q0);rfl)
    have yU : Rd Y u (encTab T) := by rw [← hY]; exact (by apply rd_eq;(focus with_reducible repeat first|assumption|exact q1 ‹_›|apply q3);rfl)
    have ys : H.sub Y := by rw [← hY]; exact (by repeat first|assumption|(apply su1;assumption))
    clear hY
    refine aw_loop (fun k : Nat => k = 0 ∨ (k : Int) ≤ R.1.room) (fun k => [(14, .ptr t 0), (16, .ptr u 0), (18, .i ((k : Int) + 1))]) (fun _ => Y) (fun k => R.1.room.toNat - k) 0 (.inl rfl) (by repeat (first | exact Fr.sub_nil _ | refine Fr.sub_cons rfl ?_)) (AHeap.sub_refl _) ?_
    intro k hk
    repeat first|(apply x1;apply r0;apply r0)|(apply x9;apply r0)|apply w6|apply w7
    refine room_c (by with_reducible assumption) ?_
    repeat first|(apply x1;apply r0;apply r0)|apply w4|apply w5
    refine aw_cond rfl (fun c1 => ?_) (fun c1 => ?_)<;>first|replace c1:=of_decide_eq_true c1|replace c1:=of_decide_eq_false c1
    case refine_2 =>
      repeat first|(apply gO;first|(apply x1;apply r0;apply r0)|apply w4)|(apply gW;first|apply w6|apply w7|apply wd|apply wc)|apply w5|apply wf|apply wh
      exact rt1 (H' := H) rfl rfl (.refl _) (by repeat assumption) hK
    have c1' : (k : Int) + 1 ≤ R.1.room := by omega
    have hkk : (((k + 1 : Nat) : Int)) = (k : Int) + 1 := by omega
    have sa := noEnts_small (at_few hg ((k : Int) + 1)).small
    repeat first|(apply x1;apply r0;apply r0)|(apply x9;apply r0)|apply w6|apply w7|apply wa|apply wb|apply w5
    refine tget_c hg.wf (by with_reducible assumption) ?_
    repeat (apply x1;apply r0;apply r0)
    refine s_alloc tk rfl rfl rfl (fun b19 hb19 => ?_); have hb := hb19; (try simp only [put_none_iff, prot_none_iff] at hb); (repeat obtain ⟨_, _, hb⟩ := hb)
    repeat first|(apply x1;apply r0;apply r0)|(apply xst;apply r0;(apply ps);apply r0)|(apply x9;apply r0)|apply w4|apply w6|apply w7|apply w5
    refine tget_c hgR.wf (by with_reducible repeat first|assumption|apply q3|exact n1 ‹_› ‹_›) ?_
    repeat (apply x1;apply r0;apply r0)
    refine s_alloc tk rfl rfl rfl (fun b21 hb21 => ?_); have hb := hb21; (try simp only [put_none_iff, prot_none_iff] at hb); (repeat obtain ⟨_, _, hb⟩ := hb)
    repeat first|(apply x1;apply r0;apply r0)|(apply xst;apply r0;(with_reducible repeat first|assumption|apply ps|apply gp);apply r0)|apply w4|apply w6|apply w7|apply w5
    cases hh : R.1.has ((k : Int) + 1) with
    | false =>
      repeat first|(apply gO;first|(apply x1;apply r0;apply r0)|apply w4|(apply w3;apply r0;apply r0)|(apply x6;apply r0;omega))|(apply gW;first|apply w7|(apply w9;apply r0)|apply wa)|apply w5|apply wg
      exact ⟨k + 1, by omega, by omega, (by repeat (first | exact Fr.sub_nil _ | refine Fr.sub_cons rfl ?_)), (by repeat first|exact s0|(apply su1;assumption))⟩
    | true =>
      obtain ⟨i1', i2'⟩ := hus _ hh
      rw [i1']
      repeat first|(apply x1;apply r0;apply r0)|(apply x2;apply r0;(with_reducible repeat first|assumption|apply q0|apply q3);apply r0)|(apply x5;apply r0)|(apply x9;apply r0)
      refine ACalls.wk (same_c (a := noEnts (T.at ((k : Int) + 1))) (b := noEnts (R.1.at ((k : Int) + 1))) sa ?_) (.pair (wk_agg rfl) (wk_agg rfl))
      rw [i2', same_refl]
      repeat first|(apply gO;first|(apply x1;apply r0;apply r0)|(apply x5;apply r0)|apply w4|(apply x6;apply r0;omega))|(apply gW;first|apply w7|(apply w9;apply r0)|apply wa)|apply w5|apply wg
      exact ⟨k + 1, by omega, by omega, (by repeat (first | exact Fr.sub_nil _ | refine Fr.sub_cons rfl ?_)), (by repeat first|exact s0|(apply su1;assumption))⟩
  have hgR := good_rename hg c (T.resolve c fr false) (T.resolve c tg false) []
  have hS := rename_stays hg htr c fr tg
  repeat first|(apply x1;apply r0;apply r0)|(apply x2;apply r0;(with_reducible assumption);apply r0)|(apply x9;apply r0)|apply w7
  refine rename_c (op := []) hg hc (Nat.zero_le _) (by with_reducible assumption) ?_
  generalize T.renameF c (T.resolve c fr false) (T.resolve c tg false) [] = R at hgR hS ⊢
  repeat first|(apply x1;apply r0;apply r0)|apply w4|apply w6|apply w7|apply w5|apply wg
  refine aw_cond rfl (fun g3 => ?_) (fun g3 => ?_)<;>first|replace g3:=not_t g3|replace g3:=not_f g3
  · repeat first|(apply x1;apply r0;apply r0)|(apply x9;apply r0)|apply w6|apply w7
    refine tsame_c hgR.wf hg.wf (by apply q0) (by with_reducible repeat first|assumption|exact q1 ‹_›|apply q3) ?_
    rw [hS.err g3, same_selfQ]
    repeat first|(apply x1;apply r0;apply r0)|apply w4|apply wd|apply w5|apply we
    exact rt1 (H' := H) rfl rfl (.refl _) (by repeat first|assumption|(apply su1;assumption)) hK
  have g3' : R.2 = 0 := g3
  have hrt : R.1.right [] = true := (right_iff hgR).2 (hS.tree g3')
  obtain ⟨hu1, hu2⟩ := hS.used g3'
  have hur := used_rng hg
  have hus := hS.same g3'
  have h24 := hgR.wf.2.1
  repeat first|(apply x1;apply r0;apply r0)|(apply x9;apply r0)|apply w6|apply w7|apply wa|apply w5
  refine tright_c (op := []) hgR.wf (Nat.zero_le _) (by apply q0) ?_
  rw [hrt]
  repeat first|(apply x1;apply r0;apply r0)|(apply x5;apply r0)|(apply x9;apply r0)
  refine used_c hgR.wf (by apply q0) ?_
  repeat first|(apply x1;apply r0;apply r0)|(apply x5;apply r0)|(apply x9;apply r0)
  refine used_c hg.wf (by with_reducible repeat first|assumption|exact q1 ‹_›|apply q3) ?_
  repeat first|(apply x1;apply r0;apply r0)|(apply x5;apply r0)
  refine s_gsplit rfl rfl (fun v1 => ?_) (fun v1 => ?_)<;>first|replace v1:=of_decide_eq_true v1|replace v1:=of_decide_eq_false v1
  · exact absurd v1 (by omega)
  repeat first|(apply x1;apply r0;apply r0)|(apply x5;apply r0)|(apply x9;apply r0)
  refine used_c hgR.wf (by apply q0) ?_
  repeat first|(apply x1;apply r0;apply r0)|(apply x5;apply r0)|(apply x9;apply r0)
  refine used_c hg.wf (by with_reducible repeat first|assumption|exact q1 ‹_›|apply q3) ?_
  repeat first|(apply x1;apply r0;apply r0)|(apply x5;apply r0)|apply w4|(apply x7;apply r0;omega)|apply w5
  refine aw_cond rfl (fun v2 => ?_) (fun v2 => ?_)<;>first|replace v2:=of_decide_eq_true v2|replace v2:=of_decide_eq_false v2
  · exact absurd v2 (by omega)
  repeat first|(apply x1;apply r0;apply r0)|apply w4|apply w6|apply w7|apply wa|apply wb|apply w5
  generalize hY : AHeap.put _ t _ = Y
  have yT : Rd Y t (encTab R.1) := by rw [← hY]; exact (by apply rd_eq;(focus apply q0);rfl)
  have yU : Rd Y u (encTab T) := by rw [← hY]; exact (by apply rd_eq;(focus with_reducible repeat first|assumption|exact q1 ‹_›|apply q3);rfl)
  have ys : H.sub Y := by rw [← hY]; exact (by repeat first|assumption|(apply su1;assumption))
  clear hY
  refine aw_loop (fun k : Nat => k = 0 ∨ (k : Int) ≤ R.1.room) (fun k => [(14, .ptr t 0), (16, .ptr u 0), (18, .i ((k : Int) + 1))]) (fun _ => Y) (fun k => R.1.room.toNat - k) 0 (.inl rfl) (by repeat (first | exact Fr.sub_nil _ | refine Fr.sub_cons rfl ?_)) (AHeap.sub_refl _) ?_
  intro k hk
  repeat first|(apply x1;apply r0;apply r0)|(apply x9;apply r0)|apply w6|apply w7
  refine room_c (by with_reducible assumption) ?_
  repeat first|(apply x1;apply r0;apply r0)|apply w4|apply w5
  refine aw_cond rfl (fun c1 => ?_) (fun c1 => ?_)<;>first|replace c1:=of_decide_eq_true c1|replace c1:=of_decide_eq_false c1
  case refine_2 =>
    repeat first|(apply gO;first|(apply x1;apply r0;apply r0)|apply w4)|(apply gW;first|apply w6|apply w7|apply wd|apply wc)|apply w5|apply wf|apply wh
    exact rt1 (H' := H) rfl rfl (.refl _) (by repeat assumption) hK
  have c1' : (k : Int) + 1 ≤ R.1.room := by omega
  have hkk : (((k + 1 : Nat) : Int)) = (k : Int) + 1 := by omega
  have sa := noEnts_small (at_few hg ((k : Int) + 1)).small
  repeat first|(apply x1;apply r0;apply r0)|(apply x9;apply r0)|apply w6|apply w7|apply wa|apply wb|apply w5
  refine tget_c hg.wf (by with_reducible assumption) ?_
  repeat (apply x1;apply r0;apply r0)
  refine s_alloc tk rfl rfl rfl (fun b19 hb19 => ?_); have hb := hb19; (try simp only [put_none_iff, prot_none_iff] at hb); (repeat obtain ⟨_, _, hb⟩ := hb)
  repeat first|(apply x1;apply r0;apply r0)|(apply xst;apply r0;(apply ps);apply r0)|(apply x9;apply r0)|apply w4|apply w6|apply w7|apply w5
  refine tget_c hgR.wf (by with_reducible repeat first|assumption|apply q3|exact n1 ‹_› ‹_›) ?_
  repeat (apply x1;apply r0;apply r0)
  refine s_alloc tk rfl rfl rfl (fun b21 hb21 => ?_); have hb := hb21; (try simp only [put_none_iff, prot_none_iff] at hb); (repeat obtain ⟨_, _, hb⟩ := hb)
  repeat first|(apply x1;apply r0;apply r0)|(apply xst;apply r0;(with_reducible repeat first|assumption|apply ps|apply gp);apply r0)|apply w4|apply w6|apply w7|apply w5
  cases hh : R.1.has ((k : Int) + 1) with
  | false =>
    repeat first|(apply gO;first|(apply x1;apply r0;apply r0)|apply w4|(apply w3;apply r0;apply r0)|(apply x6;apply r0;omega))|(apply gW;first|apply w7|(apply w9;apply r0)|apply wa)|apply w5|apply wg
    exact ⟨k + 1, by omega, by omega, (by repeat (first | exact Fr.sub_nil _ | refine Fr.sub_cons rfl ?_)), (by repeat first|exact s0|(apply su1;assumption))⟩
  | true =>
    obtain ⟨i1', i2'⟩ := hus _ hh
    rw [i1']
    repeat first|(apply x1;apply r0;apply r0)|(apply x2;apply r0;(with_reducible repeat first|assumption|apply q0|apply q3);apply r0)|(apply x5;apply r0)|(apply x9;apply r0)
    refine ACalls.wk (same_c (a := noEnts (T.at ((k : Int) + 1))) (b := noEnts (R.1.at ((k : Int) + 1))) sa ?_) (.pair (wk_agg rfl) (wk_agg rfl))
    rw [i2', same_refl]
    repeat first|(apply gO;first|(apply x1;apply r0;apply r0)|(apply x5;apply r0)|apply w4|(apply x6;apply r0;omega))|(apply gW;first|apply w7|(apply w9;apply r0)|apply wa)|apply w5|apply wg
    exact ⟨k + 1, by omega, by omega, (by repeat (first | exact Fr.sub_nil _ | refine Fr.sub_cons rfl ?_)), (by repeat first|exact s0|(apply su1;assumption))⟩
end Abs
end Go.Proofs.Ytpmnfbgnlanpoaa
