import Derived.Test.YtpmnfbgnlanpoaaZ3
set_option linter.unusedVariables false
set_option linter.unusedSimpArgs false
namespace Go.Proofs.Ytpmnfbgnlanpoaa
namespace Abs
set_option maxRecDepth 10000
attribute [local irreducible] AOps AW ACalls thenQ inBlk noGoto
attribute [local irreducible] absOf

/-! ### a name below a path that leads to a directory: the plain law -/
def Tab.dotOf (T : Tab) (c : Cred) (i : Int) : Found × Int :=
  if ¬ (T.at i).kind = 2 then (Found.zero, 20) else if T.can c i 1 = false then (Found.zero, 13) else (⟨i, ⟨#[]⟩, i⟩, 0)
theorem walk_dotend {T : Tab} {c : Cred} {fo : Bool} {f : Nat} {pos : Int} {links : Nat} : T.walk c fo (f + 2) ⟨pos, links, [dotS]⟩ = T.dotOf c pos := by
  rw [walk_step (s := ⟨pos, links, [dotS]⟩) rfl]
  unfold Tab.take Tab.dotOf
  by_cases k1 : ¬ (T.at pos).kind = 2
  · rw [if_pos k1, if_pos k1]
  rw [if_neg k1, if_neg k1]
  by_cases k2 : T.can c pos 1 = false
  · rw [if_pos k2, if_pos k2]
  rw [if_neg k2, if_neg k2, if_pos rfl]
  exact walk_end rfl
def DotR (T : Tab) (c : Cred) (r r' : Found × Int) : Prop :=
  (r.2 ≠ 0 → r' = (Found.zero, r.2)) ∧ (r.2 = 0 → r.1.node = 0 → r'.2 = 2) ∧ (r.2 = 0 → r.1.node ≠ 0 → r' = T.dotOf c r.1.node)
theorem dot_fail {T : Tab} {c : Cred} {e : Int} (h : e ≠ 0) : DotR T c (Found.zero, e) (Found.zero, e) := ⟨fun _ => rfl, fun q => absurd q h, fun q => absurd q h⟩
theorem walk_dotp {T : Tab} (hg : T.good) (ht : T.tree) {c : Cred} : ∀ (n : Nat) (pos : Int) (links : Nat) (l : List ByteArray) (f f' : Nat), Srch T c ⟨pos, links, l⟩ → links ≤ 8 → RSt.m ⟨pos, links, l⟩ < n → RSt.m ⟨pos, links, l⟩ < f → RSt.m ⟨pos, links, l ++ [dotS]⟩ < f' →
    DotR T c (T.walk c true f ⟨pos, links, l⟩) (T.walk c true f' ⟨pos, links, l ++ [dotS]⟩)
  | 0, _, _, _, _, _, _, _, h, _, _ => absurd h (Nat.not_lt_zero _)
  | n + 1, pos, links, l, f, f', hs, h8, hm, hf, hf' => by
    obtain ⟨f, rfl⟩ : ∃ g, f = g + 1 := ⟨f - 1, by omega⟩
    obtain ⟨f', rfl⟩ : ∃ g, f' = g + 1 := ⟨f' - 1, by omega⟩
    have hpos : ∀ {i : Int}, T.has i = true → i ≠ 0 := fun h e => by have := has_rng h; omega
    cases l with
    | nil =>
      have hm1 : 1 ≤ RSt.m ⟨pos, links, ([] : List ByteArray) ++ [dotS]⟩ := Nat.le_add_left _ _
      obtain ⟨f', rfl⟩ : ∃ g, f' = g + 1 := ⟨f' - 1, by omega⟩
      rw [walk_end (s := ⟨pos, links, []⟩) rfl, List.nil_append, walk_dotend]
      exact ⟨fun q => absurd rfl q, fun _ q => absurd q (hpos hs.has), fun _ _ => rfl⟩
    | cons x l =>
      have hsr := take_srch (fo := true) hg ht hs (name := x) (rest := l) rfl
      have key : (∃ r r', T.take c true ⟨pos, links, x :: l⟩ x l = .inr r ∧ T.take c true ⟨pos, links, x :: l ++ [dotS]⟩ x (l ++ [dotS]) = .inr r' ∧ DotR T c r r') ∨
          (∃ p k a, T.take c true ⟨pos, links, x :: l⟩ x l = .inl ⟨p, k, a⟩ ∧ T.take c true ⟨pos, links, x :: l ++ [dotS]⟩ x (l ++ [dotS]) = .inl ⟨p, k, a ++ [dotS]⟩) ∨
          (∃ p r, T.take c true ⟨pos, links, x :: l⟩ x l = .inr (r, 0) ∧ r.node = p ∧ p ≠ 0 ∧ T.take c true ⟨pos, links, x :: l ++ [dotS]⟩ x (l ++ [dotS]) = .inl ⟨p, links, [dotS]⟩) := by
        unfold Tab.take
        simp only
        by_cases k1 : ¬ (T.at pos).kind = 2
        · rw [if_pos k1, if_pos k1]; exact .inl ⟨_, _, rfl, rfl, dot_fail (by decide)⟩
        rw [if_neg k1, if_neg k1]
        by_cases k2 : T.can c pos 1 = false
        · rw [if_pos k2, if_pos k2]; exact .inl ⟨_, _, rfl, rfl, dot_fail (by decide)⟩
        rw [if_neg k2, if_neg k2]
        by_cases k3 : x = dotS
        · rw [if_pos k3, if_pos k3]; exact .inr (.inl ⟨_, _, _, rfl, rfl⟩)
        rw [if_neg k3, if_neg k3]
        by_cases k4 : x = dotdotS
        · rw [if_pos k4, if_pos k4]; exact .inr (.inl ⟨_, _, _, rfl, rfl⟩)
        rw [if_neg k4, if_neg k4]
        by_cases k5 : 12 < (x.size : Int)
        · rw [if_pos k5, if_pos k5]; exact .inl ⟨_, _, rfl, rfl, dot_fail (by decide)⟩
        rw [if_neg k5, if_neg k5]
        have hl1 : 0 < (l ++ [dotS]).length := by rw [List.length_append]; exact Nat.lt_of_lt_of_le Nat.zero_lt_one (Nat.le_add_left _ _)
        have hl0 : ¬ (l ++ [dotS]).length = 0 := by omega
        by_cases k6 : (T.at pos).find x = 0
        · rw [if_pos (show (T.at pos).find x = 0 ∧ 0 < (l ++ [dotS]).length from ⟨k6, hl1⟩)]
          by_cases k7 : 0 < l.length
          · rw [if_pos ⟨k6, k7⟩]; exact .inl ⟨_, _, rfl, rfl, dot_fail (by decide)⟩
          · have hz : T.at 0 = Node.zero := at_none (by cases hh : T.has 0 with | false => rfl | true => have := has_rng hh; omega)
            have hl : l.length = 0 := by omega
            rw [if_neg (fun q => k7 q.2), k6, hz, if_neg (fun q => by cases q.1), if_pos hl]
            exact .inl ⟨_, _, rfl, rfl, fun q => absurd rfl q, fun _ _ => rfl, fun _ q => absurd rfl q⟩
        rw [if_neg (show ¬ ((T.at pos).find x = 0 ∧ 0 < l.length) from fun q => k6 q.1), if_neg (show ¬ ((T.at pos).find x = 0 ∧ 0 < (l ++ [dotS]).length) from fun q => k6 q.1)]
        by_cases k8 : (T.at ((T.at pos).find x)).kind = 3
        · rw [if_pos (show (T.at ((T.at pos).find x)).kind = 3 ∧ (True ∨ 0 < l.length) from ⟨k8, .inl trivial⟩), if_pos (show (T.at ((T.at pos).find x)).kind = 3 ∧ (True ∨ 0 < (l ++ [dotS]).length) from ⟨k8, .inl trivial⟩)]
          by_cases k9 : links = 8
          · rw [if_pos k9, if_pos k9]; exact .inl ⟨_, _, rfl, rfl, dot_fail (by decide)⟩
          · rw [if_neg k9, if_neg k9, ← List.append_assoc]; exact .inr (.inl ⟨_, _, _, rfl, rfl⟩)
        rw [if_neg (show ¬ ((T.at ((T.at pos).find x)).kind = 3 ∧ (True ∨ 0 < l.length)) from fun q => k8 q.1), if_neg (show ¬ ((T.at ((T.at pos).find x)).kind = 3 ∧ (True ∨ 0 < (l ++ [dotS]).length)) from fun q => k8 q.1), if_neg hl0]
        by_cases k10 : l.length = 0
        · rw [if_pos k10]
          have : l = [] := List.length_eq_zero_iff.1 k10
          subst this
          exact .inr (.inr ⟨_, _, rfl, rfl, k6, rfl⟩)
        · rw [if_neg k10]; exact .inr (.inl ⟨_, _, _, rfl, rfl⟩)
      rw [walk_step (s := ⟨pos, links, x :: l⟩) rfl, walk_step (s := ⟨pos, links, x :: l ++ [dotS]⟩) (name := x) (rest := l ++ [dotS]) rfl]
      rcases key with ⟨r, r', e1, e2, h⟩ | ⟨p, k, a, e1, e2⟩ | ⟨p, r, e1, e3, e4, e2⟩
      · rw [e1, e2]; exact h
      · obtain ⟨m1, m2⟩ := take_m hg h8 rfl e1
        obtain ⟨m3, m4⟩ := take_m hg h8 rfl e2
        have hs' := hsr.1 _ e1
        rw [e1, e2]
        exact walk_dotp hg ht n p k a f f' hs' m2 (by omega) (by omega) (by omega)
      · obtain ⟨m3, m4⟩ := take_m hg h8 rfl e2
        rw [e1, e2]
        have hm1 : 1 ≤ RSt.m ⟨p, links, [dotS]⟩ := Nat.le_add_left _ _
        obtain ⟨f', rfl⟩ : ∃ g, f' = g + 2 := ⟨f' - 2, by omega⟩
        simp only
        rw [walk_dotend]
        exact ⟨fun q => absurd rfl q, fun _ q => absurd (e3 ▸ q) e4, fun _ _ => by rw [e3]⟩
end Abs
end Go.Proofs.Ytpmnfbgnlanpoaa
