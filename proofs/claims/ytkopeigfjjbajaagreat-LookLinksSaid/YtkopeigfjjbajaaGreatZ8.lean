import Derived.Test.YtkopeigfjjbajaaGreatZ7
import Derived.Test.YtkopeigfjjbajaaGreatXL
set_option linter.unusedVariables false
namespace Go.Proofs.YtkopeigfjjbajaaGreat
namespace Abs
set_option maxRecDepth 10000
attribute [local irreducible] AOps AW ACalls thenQ inBlk noGoto

/-! ### LookLinks: a link's target from where it stands, plain law -/
theorem joinOf_byL (d t : ByteArray) : byL (joinOf d t) = byL d ++ byL t ∧ (d = ⟨#[]⟩ ∨ (byL d).getLast? = some 47) ∨ byL (joinOf d t) = byL d ++ 47 :: byL t := by
  unfold joinOf
  rw [endOf_last]
  by_cases h : (decide (d = ⟨#[]⟩) || decide ((byL d).getLast? = some 47)) = true
  · rw [if_pos h]
    refine .inl ⟨app_byL _ _, ?_⟩
    simpa using h
  · rw [if_neg h]
    refine .inr ?_
    rw [app_byL, app_byL, List.append_assoc]; rfl
theorem names_joinOf (d t : ByteArray) : namesOf (joinOf d t) = namesOf d ++ namesOf t := by
  unfold namesOf
  rw [← List.map_append]
  congr 1
  rcases joinOf_byL d t with ⟨h, e | e⟩ | h
  · rw [h, e]
    show splitL [] ([] ++ byL t) = splitL [] [] ++ splitL [] (byL t)
    simp [splitL]
  · obtain ⟨q, hq⟩ := List.getLast?_eq_some_iff.1 e
    rw [h, hq, List.append_assoc, show q ++ ([47] ++ byL t) = q ++ 47 :: byL t from rfl, splitL_app, show q ++ [47] = q ++ 47 :: [] from rfl, splitL_app]
    simp [splitL]
  · rw [h, splitL_app]
theorem byL_ne {t : ByteArray} (h : t ≠ ⟨#[]⟩) : byL t ≠ [] := fun e => h (by rw [← ofL_byL t, e]; rfl)
theorem last_joinOf (d : ByteArray) {t : ByteArray} (h : t ≠ ⟨#[]⟩) : (byL (joinOf d t)).getLast? = (byL t).getLast? := by
  have hl : (byL t).getLast? = some ((byL t).getLast (byL_ne h)) := List.getLast?_eq_some_getLast (byL_ne h)
  rcases joinOf_byL d t with ⟨e, _⟩ | e
  · rw [e, List.getLast?_append, hl]; rfl
  · rw [e, show byL d ++ 47 :: byL t = (byL d ++ [47]) ++ byL t by simp, List.getLast?_append, hl]; rfl
theorem joinOf_ne (d : ByteArray) {t : ByteArray} (h : t ≠ ⟨#[]⟩) : joinOf d t ≠ ⟨#[]⟩ := fun e => by
  have h1 := last_joinOf d h
  rw [e] at h1
  have hl : (byL t).getLast? = some ((byL t).getLast (byL_ne h)) := List.getLast?_eq_some_getLast (byL_ne h)
  rw [hl] at h1
  exact absurd (show (none : Option UInt8) = _ from h1) (by simp)
theorem joinOf_nul (d t : ByteArray) : hasB (joinOf d t) 0 = (hasB d 0 || hasB t 0) := by
  have h (s : ByteArray) : hasB s 0 = (byL s).contains 0 := rfl
  rw [h, h, h]
  rcases joinOf_byL d t with ⟨e, _⟩ | e
  · rw [e, List.contains_append]
  · rw [e]; simp only [List.contains_append, List.contains_cons]; simp
theorem names_ne_abs {t : ByteArray} (h : t ≠ ⟨#[]⟩) (ha : absOf t = false) : namesOf t ≠ [] := by
  intro e
  have e1 : splitL [] (byL t) = [] := by
    unfold namesOf at e; exact List.map_eq_nil_iff.1 e
  have h47 : (byL t)[0]? ≠ some 47 := by unfold absOf at ha; simpa using ha
  have grow : ∀ (r cur : List UInt8), cur ≠ [] → splitL cur r ≠ [] := by
    intro r
    induction r with
    | nil => intro cur hc; simp only [splitL]; rw [if_neg hc]; simp
    | cons x r ih =>
      intro cur hc
      simp only [splitL]
      split
      · first | (rw [if_neg hc]; simp) | simp
      · exact ih _ (by simp)
  cases hb : byL t with
  | nil => exact byL_ne h hb
  | cons x r =>
    rw [hb] at e1 h47
    have hx : x ≠ 47 := fun q => h47 (by rw [q]; rfl)
    simp only [splitL] at e1
    rw [if_neg hx] at e1
    exact grow _ _ (by simp) e1
theorem split_joinOf (d : ByteArray) {t : ByteArray} (h : t ≠ ⟨#[]⟩) (ha : absOf t = false) : splitOf (joinOf d t) = namesOf d ++ splitOf t := by
  have hn := names_ne_abs h ha
  have h1 : (namesOf (joinOf d t)).isEmpty = false := by
    rw [names_joinOf]
    cases hq : (namesOf d ++ namesOf t).isEmpty with
    | false => rfl
    | true => exact absurd (List.append_eq_nil_iff.1 (List.isEmpty_iff.1 hq)).2 hn
  have h2 : (namesOf t).isEmpty = false := by
    cases hq : (namesOf t).isEmpty with
    | false => rfl
    | true => exact absurd (List.isEmpty_iff.1 hq) hn
  rw [splitOf_tail, splitOf_tail, h1, h2, if_neg (by decide), if_neg (by decide), names_joinOf, List.append_assoc]
  congr 2
  unfold tailOf
  rw [last_joinOf d h]
theorem name_abs {s : ByteArray} (h : NameIs s) : absOf s = false := by
  unfold absOf
  refine decide_eq_false (fun e => ?_)
  have : (47 : UInt8) ∈ byL s := List.mem_of_getElem? e
  exact has_not h.slash _ this rfl
theorem name_split {s : ByteArray} (h : NameIs s) : splitOf s = [s] := by
  have hl : (byL s).getLast? ≠ some 47 := fun e => by
    obtain ⟨q, hq⟩ := List.getLast?_eq_some_iff.1 e
    exact has_not h.slash _ (by rw [hq]; simp) rfl
  rw [tail_none hl]
  unfold namesOf
  rw [splitL_one _ _ (has_not h.slash), List.nil_append, if_neg (byL_ne h.ne), List.map_singleton, ofL_byL]
/-- Names ahead of others are walked whatever comes behind. -/
theorem walk_pre {T : Tab} (hg : T.good) {c : Cred} : ∀ (n : Nat) (pos : Int) (links : Nat) (l : List ByteArray), links ≤ 8 → RSt.m ⟨pos, links, l⟩ < n →
    (∃ e : Int, e ≠ 0 ∧ ∀ (A : List ByteArray) (fo : Bool) (f : Nat), A ≠ [] → RSt.m ⟨pos, links, l ++ A⟩ < f → T.walk c fo f ⟨pos, links, l ++ A⟩ = (Found.zero, e)) ∨
    (∃ p k, k ≤ 8 ∧ ∀ (A : List ByteArray) (fo : Bool) (f : Nat), A ≠ [] → RSt.m ⟨pos, links, l ++ A⟩ < f → ∃ f1, RSt.m ⟨p, k, A⟩ < f1 ∧ T.walk c fo f ⟨pos, links, l ++ A⟩ = T.walk c fo f1 ⟨p, k, A⟩)
  | 0, _, _, _, _, h => absurd h (Nat.not_lt_zero _)
  | n + 1, pos, links, l, h8, hm => by
    cases l with
    | nil => exact .inr ⟨pos, links, h8, fun A fo f _ hf => ⟨f, hf, rfl⟩⟩
    | cons x l =>
      have key : (∃ e : Int, e ≠ 0 ∧ ∀ (A : List ByteArray) (fo : Bool), A ≠ [] → T.take c fo ⟨pos, links, x :: l ++ A⟩ x (l ++ A) = .inr (Found.zero, e)) ∨
          (∃ p k a, ∀ (A : List ByteArray) (fo : Bool), A ≠ [] → T.take c fo ⟨pos, links, x :: l ++ A⟩ x (l ++ A) = .inl ⟨p, k, a ++ A⟩) := by
        unfold Tab.take
        simp only
        by_cases k1 : ¬ (T.at pos).kind = 2
        · exact .inl ⟨20, by decide, fun A fo hA => by rw [if_pos k1]⟩
        by_cases k2 : T.can c pos 1 = false
        · exact .inl ⟨13, by decide, fun A fo hA => by rw [if_neg k1, if_pos k2]⟩
        by_cases k3 : x = dotS
        · exact .inr ⟨pos, links, l, fun A fo hA => by rw [if_neg k1, if_neg k2, if_pos k3]⟩
        by_cases k4 : x = dotdotS
        · exact .inr ⟨_, links, l, fun A fo hA => by rw [if_neg k1, if_neg k2, if_neg k3, if_pos k4]⟩
        by_cases k5 : 12 < (x.size : Int)
        · exact .inl ⟨36, by decide, fun A fo hA => by rw [if_neg k1, if_neg k2, if_neg k3, if_neg k4, if_pos k5]⟩
        have hl1 : ∀ A : List ByteArray, A ≠ [] → 0 < (l ++ A).length := fun A hA => by
          rw [List.length_append]
          have := List.length_pos_iff.2 hA
          omega
        by_cases k6 : (T.at pos).find x = 0
        · exact .inl ⟨2, by decide, fun A fo hA => by rw [if_neg k1, if_neg k2, if_neg k3, if_neg k4, if_neg k5, if_pos ⟨k6, hl1 A hA⟩]⟩
        by_cases k8 : (T.at ((T.at pos).find x)).kind = 3
        · by_cases k9 : links = 8
          · exact .inl ⟨40, by decide, fun A fo hA => by rw [if_neg k1, if_neg k2, if_neg k3, if_neg k4, if_neg k5, if_neg (fun q => k6 q.1), if_pos ⟨k8, .inr (hl1 A hA)⟩, if_pos k9]⟩
          · exact .inr ⟨_, _, splitOf (T.at ((T.at pos).find x)).target ++ l, fun A fo hA => by rw [if_neg k1, if_neg k2, if_neg k3, if_neg k4, if_neg k5, if_neg (fun q => k6 q.1), if_pos ⟨k8, .inr (hl1 A hA)⟩, if_neg k9, List.append_assoc]⟩
        · exact .inr ⟨_, links, l, fun A fo hA => by rw [if_neg k1, if_neg k2, if_neg k3, if_neg k4, if_neg k5, if_neg (fun q => k6 q.1), if_neg (fun q => k8 q.1), if_neg (by have := hl1 A hA; omega)]⟩
      rcases key with ⟨e, he, h⟩ | ⟨p, k, a, h⟩
      · refine .inl ⟨e, he, fun A fo f hA hf => ?_⟩
        obtain ⟨f, rfl⟩ : ∃ g, f = g + 1 := ⟨f - 1, by omega⟩
        rw [walk_step (s := ⟨pos, links, x :: l ++ A⟩) (name := x) (rest := l ++ A) rfl, h A fo hA]
      · have hm1 := take_m (s := ⟨pos, links, x :: l ++ [dotS]⟩) hg h8 rfl (h [dotS] true (by simp))
        have e1 : RSt.m ⟨p, k, a ++ [dotS]⟩ = RSt.m ⟨p, k, a⟩ + 1 := by unfold RSt.m; simp only [List.length_append, List.length_singleton]; omega
        have e2 : RSt.m ⟨pos, links, x :: l ++ [dotS]⟩ = RSt.m ⟨pos, links, x :: l⟩ + 1 := by unfold RSt.m; simp only [List.length_append, List.length_singleton]; omega
        have st : ∀ (A : List ByteArray) (fo : Bool) (f : Nat), A ≠ [] → RSt.m ⟨pos, links, x :: l ++ A⟩ < f → ∃ g, RSt.m ⟨p, k, a ++ A⟩ < g ∧ T.walk c fo f ⟨pos, links, x :: l ++ A⟩ = T.walk c fo g ⟨p, k, a ++ A⟩ := fun A fo f hA hf => by
          obtain ⟨f, rfl⟩ : ∃ g, f = g + 1 := ⟨f - 1, by omega⟩
          have hm2 := (take_m (s := ⟨pos, links, x :: l ++ A⟩) hg h8 rfl (h A fo hA)).1
          refine ⟨f, by omega, ?_⟩
          rw [walk_step (s := ⟨pos, links, x :: l ++ A⟩) (name := x) (rest := l ++ A) rfl, h A fo hA]
        rcases walk_pre hg n p k a hm1.2 (by omega) with ⟨e, he, ih⟩ | ⟨p', k', hk', ih⟩
        · refine .inl ⟨e, he, fun A fo f hA hf => ?_⟩
          obtain ⟨g, hgm, eg⟩ := st A fo f hA hf
          rw [eg]; exact ih A fo g hA hgm
        · refine .inr ⟨p', k', hk', fun A fo f hA hf => ?_⟩
          obtain ⟨g, hgm, eg⟩ := st A fo f hA hf
          rw [eg]; exact ih A fo g hA hgm
/-- With fewer links behind one a walk leads to the same place, but for one that ends for its links. -/
theorem walk_less {T : Tab} (hg : T.good) {c : Cred} {fo : Bool} : ∀ (f f' : Nat) (pos : Int) (k k' : Nat) (l : List ByteArray), k' ≤ k → k ≤ 8 → RSt.m ⟨pos, k, l⟩ < f → RSt.m ⟨pos, k', l⟩ < f' →
    (T.walk c fo f ⟨pos, k, l⟩).2 = 40 ∨ T.walk c fo f' ⟨pos, k', l⟩ = T.walk c fo f ⟨pos, k, l⟩
  | 0, _, _, _, _, _, _, _, h, _ => absurd h (Nat.not_lt_zero _)
  | _ + 1, 0, _, _, _, _, _, _, _, h => absurd h (Nat.not_lt_zero _)
  | f + 1, f' + 1, pos, k, k', l, hk, h8, hf, hf' => by
    cases l with
    | nil => exact .inr (by rw [walk_end rfl, walk_end rfl])
    | cons x l =>
      have key : (∃ r, T.take c fo ⟨pos, k, x :: l⟩ x l = .inr r ∧ (r.2 = 40 ∨ T.take c fo ⟨pos, k', x :: l⟩ x l = .inr r)) ∨
          (∃ p q q' a, q' ≤ q ∧ T.take c fo ⟨pos, k, x :: l⟩ x l = .inl ⟨p, q, a⟩ ∧ T.take c fo ⟨pos, k', x :: l⟩ x l = .inl ⟨p, q', a⟩) := by
        unfold Tab.take
        simp only
        by_cases k1 : ¬ (T.at pos).kind = 2
        · rw [if_pos k1, if_pos k1]; exact .inl ⟨_, rfl, .inr rfl⟩
        rw [if_neg k1, if_neg k1]
        by_cases k2 : T.can c pos 1 = false
        · rw [if_pos k2, if_pos k2]; exact .inl ⟨_, rfl, .inr rfl⟩
        rw [if_neg k2, if_neg k2]
        by_cases k3 : x = dotS
        · rw [if_pos k3, if_pos k3]; exact .inr ⟨_, _, _, _, hk, rfl, rfl⟩
        rw [if_neg k3, if_neg k3]
        by_cases k4 : x = dotdotS
        · rw [if_pos k4, if_pos k4]; exact .inr ⟨_, _, _, _, hk, rfl, rfl⟩
        rw [if_neg k4, if_neg k4]
        by_cases k5 : 12 < (x.size : Int)
        · rw [if_pos k5, if_pos k5]; exact .inl ⟨_, rfl, .inr rfl⟩
        rw [if_neg k5, if_neg k5]
        by_cases k6 : (T.at pos).find x = 0 ∧ 0 < l.length
        · rw [if_pos k6, if_pos k6]; exact .inl ⟨_, rfl, .inr rfl⟩
        rw [if_neg k6, if_neg k6]
        by_cases k7 : (T.at ((T.at pos).find x)).kind = 3 ∧ (fo = true ∨ 0 < l.length)
        · rw [if_pos k7, if_pos k7]
          by_cases k8 : k = 8
          · rw [if_pos k8]; exact .inl ⟨_, rfl, .inl rfl⟩
          · rw [if_neg k8, if_neg (show ¬ k' = 8 by omega)]; exact .inr ⟨_, _, _, _, Nat.succ_le_succ hk, rfl, rfl⟩
        rw [if_neg k7, if_neg k7]
        by_cases k9 : l.length = 0
        · rw [if_pos k9, if_pos k9]; exact .inl ⟨_, rfl, .inr rfl⟩
        · rw [if_neg k9, if_neg k9]; exact .inr ⟨_, _, _, _, hk, rfl, rfl⟩
      rw [walk_step (s := ⟨pos, k, x :: l⟩) rfl, walk_step (s := ⟨pos, k', x :: l⟩) rfl]
      rcases key with ⟨r, e1, h | e2⟩ | ⟨p, q, q', a, hq, e1, e2⟩
      · rw [e1]; exact .inl h
      · rw [e1, e2]; exact .inr rfl
      · obtain ⟨m1, m2⟩ := take_m (s := ⟨pos, k, x :: l⟩) hg h8 rfl e1
        obtain ⟨m3, m4⟩ := take_m (s := ⟨pos, k', x :: l⟩) hg (Nat.le_trans hk h8) rfl e2
        rw [e1, e2]
        exact walk_less hg f f' p q q' a hq m2 (by omega) (by omega)
theorem look_resolve {T : Tab} {c : Cred} {p q : ByteArray} {fo fo' : Bool} (h : T.resolve c p fo = T.resolve c q fo') : T.look c p fo = T.look c q fo' := by
  unfold Tab.look; rw [h]
theorem look_err {T : Tab} {c : Cred} {p : ByteArray} {fo : Bool} {e : Int} (he : e ≠ 0) (h : T.resolve c p fo = (Found.zero, e)) : T.look c p fo = (Stat.zero, e) := by
  unfold Tab.look; rw [h, if_neg he]
structure LinkLaw (T : Tab) (c : Cred) (d : ByteArray) (A B : Stat × Int) : Prop where
  err : ¬ A.2 = 0 → B.2 = A.2
  same : A.2 = 0 → ¬ A.1.kind = 3 → B = A
  tgt : A.2 = 0 → A.1.kind = 3 → (T.at A.1.node).kind = 3 ∧ A.1.size = (T.at A.1.node).target.size ∧ fitsOk (T.at A.1.node).target = true
  rel : A.2 = 0 → A.1.kind = 3 → absOf (T.at A.1.node).target = false → (T.look c (joinOf d (T.at A.1.node).target) true).2 = 36 ∨ B.2 = 40 ∨ T.look c (joinOf d (T.at A.1.node).target) true = B
  abs : A.2 = 0 → A.1.kind = 3 → absOf (T.at A.1.node).target = true → B.2 = 40 ∨ T.look c (T.at A.1.node).target true = B
theorem fitsOk_iff {t : ByteArray} (h : fitsOk t = true) : t ≠ ⟨#[]⟩ ∧ (t.size : Int) ≤ 64 ∧ hasB t 0 = false := by
  unfold fitsOk at h
  simp only [Bool.and_eq_true, Bool.not_eq_true', decide_eq_false_iff_not, decide_eq_true_eq] at h
  exact ⟨h.1.1, h.1.2, h.2⟩
theorem link_law {T : Tab} (hg : T.good) (ht : T.tree) {c : Cred} {d s : ByteArray} (hn : nameOk s = true) : LinkLaw T c d (T.look c (joinOf d s) false) (T.look c (joinOf d s) true) := by
  have hi := name_is hn
  have h12 := hi.size
  have sp : splitOf (joinOf d s) = namesOf d ++ [s] := by rw [split_joinOf d hi.ne (name_abs hi), name_split hi]
  by_cases hf : T.fitsE (joinOf d s) = 0
  case neg =>
    have r : ∀ fo, T.resolve c (joinOf d s) fo = (Found.zero, T.fitsE (joinOf d s)) := fun fo => by unfold Tab.resolve; rw [if_neg hf]
    rw [look_err hf (r false), look_err hf (r true)]
    exact ⟨fun _ => rfl, fun q => absurd q hf, fun q => absurd q hf, fun q => absurd q hf, fun q => absurd q hf⟩
  have hR : ∀ fo, T.resolve c (joinOf d s) fo = T.walk c fo 2000 ⟨1, 0, namesOf d ++ [s]⟩ := fun fo => by unfold Tab.resolve; rw [if_pos hf, sp]
  have mj := start_m hf 1
  rw [sp] at mj
  have fp : T.has 1 = true ∧ hasB d 0 = false := by
    unfold Tab.fitsE at hf
    rw [if_neg (joinOf_ne d hi.ne)] at hf
    split at hf
    · cases hf
    · split at hf
      · cases hf
      · rename_i h2
        split at hf
        · rename_i h3
          rw [joinOf_nul] at h2
          refine ⟨h3, ?_⟩
          cases hq : hasB d 0 with
          | false => rfl
          | true => rw [hq] at h2; exact absurd rfl h2
        · cases hf
  rcases walk_pre hg (c := c) 2000 1 0 (namesOf d) (Nat.zero_le _) (by
    have mj' : (8 - 0) * 110 + (namesOf d ++ [s]).length < 2000 := mj
    rw [List.length_append, List.length_singleton] at mj'
    show (8 - 0) * 110 + (namesOf d).length < 2000
    omega) with ⟨e, he, h⟩ | ⟨p, k, h8, h⟩
  · have r : ∀ fo, T.resolve c (joinOf d s) fo = (Found.zero, e) := fun fo => by rw [hR]; exact h [s] fo 2000 (by simp) mj
    rw [look_err he (r false), look_err he (r true)]
    exact ⟨fun _ => rfl, fun q => absurd q he, fun q => absurd q he, fun q => absurd q he, fun q => absurd q he⟩
  obtain ⟨f1, hm1, e1⟩ := h [s] false 2000 (by simp) mj
  obtain ⟨f2, hm2, e2⟩ := h [s] true 2000 (by simp) mj
  have rA := (hR false).trans e1
  have rB := (hR true).trans e2
  obtain ⟨f1, rfl⟩ : ∃ g, f1 = g + 1 := ⟨f1 - 1, by omega⟩
  obtain ⟨f2, rfl⟩ : ∃ g, f2 = g + 1 := ⟨f2 - 1, by omega⟩
  rw [walk_last hi] at rA
  rw [walk_step (s := ⟨p, k, [s]⟩) rfl] at rB
  unfold Tab.lastOf at rA
  unfold Tab.take at rB
  simp only at rB
  by_cases k1 : ¬ (T.at p).kind = 2
  · rw [if_pos k1] at rA rB
    rw [look_err (by decide) rA, look_err (by decide) rB]
    exact ⟨fun _ => rfl, fun q => absurd q (by decide), fun q => absurd q (by decide), fun q => absurd q (by decide), fun q => absurd q (by decide)⟩
  rw [if_neg k1] at rA rB
  by_cases k2 : T.can c p 1 = false
  · rw [if_pos k2] at rA rB
    rw [look_err (by decide) rA, look_err (by decide) rB]
    exact ⟨fun _ => rfl, fun q => absurd q (by decide), fun q => absurd q (by decide), fun q => absurd q (by decide), fun q => absurd q (by decide)⟩
  rw [if_neg k2] at rA rB
  rw [if_neg hi.dot, if_neg hi.dots, if_neg (show ¬ 12 < (s.size : Int) by omega), if_neg (fun q => absurd q.2 (Nat.lt_irrefl 0))] at rB
  have hA : T.look c (joinOf d s) false = if T.has ((T.at p).find s) = true then (T.stat ((T.at p).find s), 0) else (Stat.zero, 2) := by
    unfold Tab.look; rw [rA, if_pos rfl]
  by_cases k8 : (T.at ((T.at p).find s)).kind = 3
  case neg =>
    rw [if_neg (fun q => k8 q.1), if_pos (show ([] : List ByteArray).length = 0 from rfl)] at rB
    have hAB : T.look c (joinOf d s) true = T.look c (joinOf d s) false := look_resolve (by rw [rA, rB])
    have hkA : (T.look c (joinOf d s) false).2 = 0 → ¬ (T.look c (joinOf d s) false).1.kind = 3 := fun q => by
      rw [hA] at q ⊢
      cases hh : T.has ((T.at p).find s) with
      | false => rw [hh, if_neg (by decide)] at q; exact absurd q (by decide)
      | true => rw [if_pos rfl]; unfold Tab.stat; rw [if_pos hh]; exact k8
    rw [hAB]
    exact ⟨fun _ => rfl, fun _ _ => rfl, fun q z => absurd z (hkA q), fun q z => absurd z (hkA q), fun q z => absurd z (hkA q)⟩
  have hh : T.has ((T.at p).find s) = true := has_kind'.2 (by rw [k8]; decide)
  rw [if_pos ⟨k8, .inl trivial⟩] at rB
  rw [hh, if_pos rfl] at hA
  have hnode : (T.stat ((T.at p).find s)).node = (T.at p).find s := by unfold Tab.stat; rw [if_pos hh]
  have hkind : (T.stat ((T.at p).find s)).kind = 3 := by unfold Tab.stat; rw [if_pos hh]; exact k8
  have hsz : (T.stat ((T.at p).find s)).size = (T.at ((T.at p).find s)).target.size := by
    unfold Tab.stat; rw [if_pos hh]
    show (T.at ((T.at p).find s)).size = _
    unfold Node.size
    rw [k8]; rfl
  have hfit : fitsOk (T.at ((T.at p).find s)).target = true := by
    rcases at_zero_ok hg ((T.at p).find s) with z | z
    · rw [z] at k8; cases k8
    · unfold nodeOk at z
      rw [k8, if_neg (by decide), if_neg (by decide), if_pos rfl] at z
      simp only [Bool.and_eq_true] at z
      exact z.2.2
  rw [hA]
  obtain ⟨tne, tsz, tnul⟩ := fitsOk_iff hfit
  have hB40 : k = 8 → (T.look c (joinOf d s) true).2 = 40 := fun q => by
    rw [if_pos q] at rB
    rw [look_err (by decide) rB]
  refine ⟨fun q => absurd rfl q, fun _ q => absurd hkind q, fun _ _ => ?_, fun _ _ ha => ?_, fun _ _ ha => ?_⟩ <;> rw [hnode] at *
  · exact ⟨k8, hsz, hfit⟩
  all_goals
    generalize (T.at ((T.at p).find s)).target = t at *
    by_cases k9 : k = 8
    · first | exact .inr (.inl (hB40 k9)) | exact .inl (hB40 k9)
    rw [if_neg k9, ha] at rB
  · rw [if_neg (by decide)] at rB
    by_cases h64 : 64 < ((joinOf d t).size : Int)
    · refine .inl ?_
      have hE : T.fitsE (joinOf d t) = 36 := by unfold Tab.fitsE; rw [if_neg (joinOf_ne d tne), if_pos h64]
      rw [look_err (e := 36) (by decide) (by unfold Tab.resolve; rw [hE, if_neg (by decide)])]
    refine .inr ?_
    have hE : T.fitsE (joinOf d t) = 0 := by
      unfold Tab.fitsE
      rw [if_neg (joinOf_ne d tne), if_neg h64, joinOf_nul, fp.2, tnul, if_neg (by decide), if_pos fp.1]
    have hsplit := split_joinOf d tne ha
    have mt := start_m hE 1
    rw [hsplit] at mt
    have htne : splitOf t ≠ [] := fun e => by
      rw [splitOf_tail] at e
      have := names_ne_abs tne ha
      split at e
      · rename_i z; exact this (List.isEmpty_iff.1 z)
      · exact this (List.append_eq_nil_iff.1 e).1
    obtain ⟨f3, hm3, e3⟩ := h (splitOf t) true 2000 htne mt
    have rX : T.resolve c (joinOf d t) true = T.walk c true f3 ⟨p, k, splitOf t⟩ := by
      unfold Tab.resolve; rw [if_pos hE, hsplit]; exact e3
    have hmB : RSt.m ⟨p, k + 1, splitOf t ++ []⟩ < f2 := by
      have hl := splitOf_len t
      have hm2' : (8 - k) * 110 + 1 < f2 + 1 := hm2
      show (8 - (k + 1)) * 110 + (splitOf t ++ []).length < f2
      rw [List.append_nil]
      have : t.size ≤ 64 := by omega
      omega
    rcases walk_less hg (c := c) (fo := true) f2 f3 p (k + 1) k (splitOf t ++ []) (Nat.le_succ k) (by omega) hmB (by rw [List.append_nil]; exact hm3) with z | z
    · have : T.resolve c (joinOf d s) true = T.walk c true f2 ⟨p, k + 1, splitOf t ++ []⟩ := rB
      refine .inl ?_
      unfold Tab.look
      rw [this, if_neg (by rw [z]; decide)]
      exact z
    · refine .inr (look_resolve ?_)
      rw [rX, rB]
      rw [List.append_nil] at z ⊢
      exact z
  · rw [if_pos rfl] at rB
    have hE : T.fitsE t = 0 := by
      unfold Tab.fitsE
      rw [if_neg tne, if_neg (by omega), tnul, if_neg (by decide), if_pos fp.1]
    have mt := start_m hE 1
    have rX : T.resolve c t true = T.walk c true 2000 ⟨1, 0, splitOf t⟩ := by unfold Tab.resolve; rw [if_pos hE]
    have hmB : RSt.m ⟨1, k + 1, splitOf t ++ []⟩ < f2 := by
      have hl := splitOf_len t
      have hm2' : (8 - k) * 110 + 1 < f2 + 1 := hm2
      show (8 - (k + 1)) * 110 + (splitOf t ++ []).length < f2
      rw [List.append_nil]
      have : t.size ≤ 64 := by omega
      omega
    rcases walk_less hg (c := c) (fo := true) f2 2000 1 (k + 1) 0 (splitOf t ++ []) (Nat.zero_le _) (by omega) hmB (by rw [List.append_nil]; exact mt) with z | z
    · have : T.resolve c (joinOf d s) true = T.walk c true f2 ⟨1, k + 1, splitOf t ++ []⟩ := rB
      refine .inl ?_
      unfold Tab.look
      rw [this, if_neg (by rw [z]; decide)]
      exact z
    · refine .inr (look_resolve ?_)
      rw [rX, rB]
      rw [List.append_nil] at z ⊢
      exact z
end Abs
end Go.Proofs.YtkopeigfjjbajaaGreat
