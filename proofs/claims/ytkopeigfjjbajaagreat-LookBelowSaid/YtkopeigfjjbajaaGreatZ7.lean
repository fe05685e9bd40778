import Derived.Test.YtkopeigfjjbajaaGreatZ6
set_option linter.unusedVariables false
set_option linter.unusedSimpArgs false
namespace Go.Proofs.YtkopeigfjjbajaaGreat
namespace Abs
set_option maxRecDepth 10000
attribute [local irreducible] AOps AW ACalls thenQ inBlk noGoto
attribute [local irreducible] absOf

/-! ### a name below a path that leads to a directory: the plain law -/
def Tab.dotOf (T : Tab) (c : Cred) (i : Int) : Found × Int :=
  if ¬ (T.at i).kind = 2 then (Found.zero, 20) else if T.can c i 1 = false then (Found.zero, 13) else (⟨i, ⟨#[]⟩, i⟩, 0)
theorem walk_dotend {T : Tab} {c : Cred} {fo : Bool} {f : Nat} {pos : Int} {links : Nat} : T.walk c fo (f + 2) ⟨pos, links, [dotS]⟩ = T.dotOf c pos := by
  rw [walk_step (s := ⟨pos, links, [dotS]⟩) rfl]
  unfold Tab.take Tab.dotOf
  by_cases k1 : ¬ (T.at pos).kind = 2
  · rw [if_pos k1, if_pos k1]
  rw [if_neg k1, if_neg k1]
  by_cases k2 : T.can c pos 1 = false
  · rw [if_pos k2, if_pos k2]
  rw [if_neg k2, if_neg k2, if_pos rfl]
  exact walk_end rfl
def DotR (T : Tab) (c : Cred) (r r' : Found × Int) : Prop :=
  (r.2 ≠ 0 → r' = (Found.zero, r.2)) ∧ (r.2 = 0 → r.1.node = 0 → r'.2 = 2) ∧ (r.2 = 0 → r.1.node ≠ 0 → r' = T.dotOf c r.1.node)
theorem dot_fail {T : Tab} {c : Cred} {e : Int} (h : e ≠ 0) : DotR T c (Found.zero, e) (Found.zero, e) := ⟨fun _ => rfl, fun q => absurd q h, fun q => absurd q h⟩
theorem walk_dotp {T : Tab} (hg : T.good) (ht : T.tree) {c : Cred} : ∀ (n : Nat) (pos : Int) (links : Nat) (l : List ByteArray) (f f' : Nat), Srch T c ⟨pos, links, l⟩ → links ≤ 8 → RSt.m ⟨pos, links, l⟩ < n → RSt.m ⟨pos, links, l⟩ < f → RSt.m ⟨pos, links, l ++ [dotS]⟩ < f' →
    DotR T c (T.walk c true f ⟨pos, links, l⟩) (T.walk c true f' ⟨pos, links, l ++ [dotS]⟩)
  | 0, _, _, _, _, _, _, _, h, _, _ => absurd h (Nat.not_lt_zero _)
  | n + 1, pos, links, l, f, f', hs, h8, hm, hf, hf' => by
    obtain ⟨f, rfl⟩ : ∃ g, f = g + 1 := ⟨f - 1, by omega⟩
    obtain ⟨f', rfl⟩ : ∃ g, f' = g + 1 := ⟨f' - 1, by omega⟩
    have hpos : ∀ {i : Int}, T.has i = true → i ≠ 0 := fun h e => by have := has_rng h; omega
    cases l with
    | nil =>
      have hm1 : 1 ≤ RSt.m ⟨pos, links, ([] : List ByteArray) ++ [dotS]⟩ := Nat.le_add_left _ _
      obtain ⟨f', rfl⟩ : ∃ g, f' = g + 1 := ⟨f' - 1, by omega⟩
      rw [walk_end (s := ⟨pos, links, []⟩) rfl, List.nil_append, walk_dotend]
      exact ⟨fun q => absurd rfl q, fun _ q => absurd q (hpos hs.has), fun _ _ => rfl⟩
    | cons x l =>
      have hsr := take_srch (fo := true) hg ht hs (name := x) (rest := l) rfl
      have key : (∃ r r', T.take c true ⟨pos, links, x :: l⟩ x l = .inr r ∧ T.take c true ⟨pos, links, x :: l ++ [dotS]⟩ x (l ++ [dotS]) = .inr r' ∧ DotR T c r r') ∨
          (∃ p k a, T.take c true ⟨pos, links, x :: l⟩ x l = .inl ⟨p, k, a⟩ ∧ T.take c true ⟨pos, links, x :: l ++ [dotS]⟩ x (l ++ [dotS]) = .inl ⟨p, k, a ++ [dotS]⟩) ∨
          (∃ p r, T.take c true ⟨pos, links, x :: l⟩ x l = .inr (r, 0) ∧ r.node = p ∧ p ≠ 0 ∧ T.take c true ⟨pos, links, x :: l ++ [dotS]⟩ x (l ++ [dotS]) = .inl ⟨p, links, [dotS]⟩) := by
        unfold Tab.take
        simp only
        by_cases k1 : ¬ (T.at pos).kind = 2
        · rw [if_pos k1, if_pos k1]; exact .inl ⟨_, _, rfl, rfl, dot_fail (by decide)⟩
        rw [if_neg k1, if_neg k1]
        by_cases k2 : T.can c pos 1 = false
        · rw [if_pos k2, if_pos k2]; exact .inl ⟨_, _, rfl, rfl, dot_fail (by decide)⟩
        rw [if_neg k2, if_neg k2]
        by_cases k3 : x = dotS
        · rw [if_pos k3, if_pos k3]; exact .inr (.inl ⟨_, _, _, rfl, rfl⟩)
        rw [if_neg k3, if_neg k3]
        by_cases k4 : x = dotdotS
        · rw [if_pos k4, if_pos k4]; exact .inr (.inl ⟨_, _, _, rfl, rfl⟩)
        rw [if_neg k4, if_neg k4]
        by_cases k5 : 12 < (x.size : Int)
        · rw [if_pos k5, if_pos k5]; exact .inl ⟨_, _, rfl, rfl, dot_fail (by decide)⟩
        rw [if_neg k5, if_neg k5]
        have hl1 : 0 < (l ++ [dotS]).length := by rw [List.length_append]; exact Nat.lt_of_lt_of_le Nat.zero_lt_one (Nat.le_add_left _ _)
        have hl0 : ¬ (l ++ [dotS]).length = 0 := by omega
        by_cases k6 : (T.at pos).find x = 0
        · rw [if_pos (show (T.at pos).find x = 0 ∧ 0 < (l ++ [dotS]).length from ⟨k6, hl1⟩)]
          by_cases k7 : 0 < l.length
          · rw [if_pos ⟨k6, k7⟩]; exact .inl ⟨_, _, rfl, rfl, dot_fail (by decide)⟩
          · have hz : T.at 0 = Node.zero := at_none (by cases hh : T.has 0 with | false => rfl | true => have := has_rng hh; omega)
            have hl : l.length = 0 := by omega
            rw [if_neg (fun q => k7 q.2), k6, hz, if_neg (fun q => by cases q.1), if_pos hl]
            exact .inl ⟨_, _, rfl, rfl, fun q => absurd rfl q, fun _ _ => rfl, fun _ q => absurd rfl q⟩
        rw [if_neg (show ¬ ((T.at pos).find x = 0 ∧ 0 < l.length) from fun q => k6 q.1), if_neg (show ¬ ((T.at pos).find x = 0 ∧ 0 < (l ++ [dotS]).length) from fun q => k6 q.1)]
        by_cases k8 : (T.at ((T.at pos).find x)).kind = 3
        · rw [if_pos (show (T.at ((T.at pos).find x)).kind = 3 ∧ (True ∨ 0 < l.length) from ⟨k8, .inl trivial⟩), if_pos (show (T.at ((T.at pos).find x)).kind = 3 ∧ (True ∨ 0 < (l ++ [dotS]).length) from ⟨k8, .inl trivial⟩)]
          by_cases k9 : links = 8
          · rw [if_pos k9, if_pos k9]; exact .inl ⟨_, _, rfl, rfl, dot_fail (by decide)⟩
          · rw [if_neg k9, if_neg k9, ← List.append_assoc]; exact .inr (.inl ⟨_, _, _, rfl, rfl⟩)
        rw [if_neg (show ¬ ((T.at ((T.at pos).find x)).kind = 3 ∧ (True ∨ 0 < l.length)) from fun q => k8 q.1), if_neg (show ¬ ((T.at ((T.at pos).find x)).kind = 3 ∧ (True ∨ 0 < (l ++ [dotS]).length)) from fun q => k8 q.1), if_neg hl0]
        by_cases k10 : l.length = 0
        · rw [if_pos k10]
          have : l = [] := List.length_eq_zero_iff.1 k10
          subst this
          exact .inr (.inr ⟨_, _, rfl, rfl, k6, rfl⟩)
        · rw [if_neg k10]; exact .inr (.inl ⟨_, _, _, rfl, rfl⟩)
      rw [walk_step (s := ⟨pos, links, x :: l⟩) rfl, walk_step (s := ⟨pos, links, x :: l ++ [dotS]⟩) (name := x) (rest := l ++ [dotS]) rfl]
      rcases key with ⟨r, r', e1, e2, h⟩ | ⟨p, k, a, e1, e2⟩ | ⟨p, r, e1, e3, e4, e2⟩
      · rw [e1, e2]; exact h
      · obtain ⟨m1, m2⟩ := take_m hg h8 rfl e1
        obtain ⟨m3, m4⟩ := take_m hg h8 rfl e2
        have hs' := hsr.1 _ e1
        rw [e1, e2]
        exact walk_dotp hg ht n p k a f f' hs' m2 (by omega) (by omega) (by omega)
      · obtain ⟨m3, m4⟩ := take_m hg h8 rfl e2
        rw [e1, e2]
        have hm1 : 1 ≤ RSt.m ⟨p, links, [dotS]⟩ := Nat.le_add_left _ _
        obtain ⟨f', rfl⟩ : ∃ g, f' = g + 2 := ⟨f' - 2, by omega⟩
        simp only
        rw [walk_dotend]
        exact ⟨fun q => absurd rfl q, fun _ q => absurd (e3 ▸ q) e4, fun _ _ => by rw [e3]⟩
theorem resolve_below {T : Tab} (hg : T.good) (ht : T.tree) {c : Cred} {p s : ByteArray} (h40 : p.size ≤ 40) (hn : nameOk s = true) (hr : (T.resolve c p true).2 = 0) (hd : (T.resolve c p true).1.node ≠ 0) : T.resolve c (joinOf p s) false = T.lastOf c s (T.resolve c p true).1.node := by
  have hi := name_is hn
  have h12 := hi.size
  have hf0 : T.fitsE p = 0 := by
    unfold Tab.resolve at hr
    split at hr
    · rename_i h; exact h
    · exact hr
  have hp : p ≠ ⟨#[]⟩ := fun e => by rw [e] at hf0; unfold Tab.fitsE at hf0; rw [if_pos rfl] at hf0; exact absurd hf0 (by decide)
  by_cases hl : (byL p).getLast? = some 47
  case neg => exact (resolve_parts hg ht hp h40 hl hn).2.2 hr hd
  -- a slash at the end
  obtain ⟨q, hq⟩ : ∃ q, byL p = q ++ [47] := by
    obtain ⟨q, hq⟩ := List.getLast?_eq_some_iff.1 hl
    exact ⟨q, hq⟩
  have hj : joinOf p s = p ++ s := by
    unfold joinOf
    rw [endOf_last, decide_eq_true hl, Bool.or_true, if_pos rfl]
  have hs : byL s ≠ [] := fun e => hi.ne (by rw [← ofL_byL s, e]; rfl)
  have hb : byL (p ++ s) = q ++ 47 :: byL s := by rw [app_byL, hq, List.append_assoc]; rfl
  have hnp : namesOf p = (splitL [] q).map ofL := by
    unfold namesOf
    rw [hq, show q ++ [47] = q ++ 47 :: [] from rfl, splitL_app]
    simp [splitL]
  have hnj : namesOf (p ++ s) = namesOf p ++ [s] := by
    rw [hnp]
    unfold namesOf
    rw [hb, splitL_app, splitL_one _ _ (has_not hi.slash), List.nil_append, if_neg hs, List.map_append, List.map_singleton, ofL_byL]
  have hlast : (byL s).getLast? = some ((byL s).getLast hs) := List.getLast?_eq_some_getLast hs
  have htj : (byL (p ++ s)).getLast? ≠ some 47 := by
    rw [hb, show q ++ 47 :: byL s = (q ++ [47]) ++ byL s by simp, List.getLast?_append, hlast]
    intro e
    have h2 : (byL s).getLast hs = 47 := by simpa using e
    exact has_not hi.slash _ (List.getLast_mem hs) h2
  have hsj : splitOf (p ++ s) = namesOf p ++ [s] := by rw [tail_none htj, hnj]
  have hsz : (p ++ s).size = p.size + s.size := ByteArray.size_append
  have hfj : T.fitsE (p ++ s) = 0 := by
    have hne : p ++ s ≠ ⟨#[]⟩ := fun e => by
      have := congrArg byL e
      rw [hb] at this
      exact absurd (show q ++ 47 :: byL s = [] from this) (by simp)
    have h0 : hasB (p ++ s) 0 = hasB p 0 := by
      have h1 : hasB (p ++ s) 0 = (byL p ++ byL s).contains 0 := by
        show (byL (p ++ s)).contains 0 = _
        rw [app_byL]
      have h2 : (byL s).contains 0 = false := hi.nul
      have h3 : hasB p 0 = (byL p).contains 0 := rfl
      rw [h1, h3]
      simp only [List.contains_append, h2]
      simp
    rw [← hf0]
    unfold Tab.fitsE
    rw [if_neg hne, if_neg hp, if_neg (show ¬ 64 < ((p ++ s).size : Int) by omega), if_neg (show ¬ 64 < (p.size : Int) by omega), h0]
  have hsp : splitOf p = if (namesOf p).isEmpty = true then [] else namesOf p ++ [dotS] := by
    rw [splitOf_tail, tailOf, if_pos hl]
  have hS : ∀ l, (∀ x ∈ l, x ≠ (⟨#[]⟩ : ByteArray)) → Srch T c ⟨1, 0, l⟩ := fun l hl => ⟨has_kind'.2 (by rw [ht.root]; decide), fun _ => anc1 hg ht c, fun _ => ht.root, hl⟩
  have hnn : ∀ x ∈ namesOf p, x ≠ (⟨#[]⟩ : ByteArray) := fun x hx => by
    obtain ⟨y, hy, rfl⟩ := List.mem_map.1 hx
    exact fun e => splitL_ne _ _ _ hy ((ofL_nil y).1 e)
  rw [hj]
  have hRj : T.resolve c (p ++ s) false = T.walk c false 2000 ⟨1, 0, namesOf p ++ [s]⟩ := by unfold Tab.resolve; rw [if_pos hfj, hsj]
  have hRp : T.resolve c p true = T.walk c true 2000 ⟨1, 0, splitOf p⟩ := by unfold Tab.resolve; rw [if_pos hf0]
  have mj := start_m hfj 1
  rw [hsj] at mj
  have mp := start_m hf0 1
  rw [hRj]
  rw [hRp] at hr hd ⊢
  rw [hsp] at hr hd mp ⊢
  by_cases he : (namesOf p).isEmpty = true
  · rw [if_pos he] at hr hd mp ⊢
    have h0 : namesOf p = [] := List.isEmpty_iff.1 he
    rw [h0, List.nil_append, walk_end (s := ⟨1, 0, []⟩) rfl]
    exact walk_last hi
  · rw [if_neg he] at hr hd mp ⊢
    have hml : RSt.m ⟨1, 0, namesOf p⟩ < 2000 := by
      have : RSt.m ⟨1, 0, namesOf p⟩ ≤ RSt.m ⟨1, 0, namesOf p ++ [dotS]⟩ := by
        show (8 - 0) * 110 + (namesOf p).length ≤ (8 - 0) * 110 + (namesOf p ++ [dotS]).length
        rw [List.length_append]; omega
      omega
    have hA := walk_parts hg ht (c := c) hi 2000 1 0 (namesOf p) 2000 2000 (hS _ hnn) (Nat.zero_le _) hml hml mj
    have hB := walk_dotp hg ht (c := c) 2000 1 0 (namesOf p) 2000 2000 (hS _ hnn) (Nat.zero_le _) hml hml mp
    generalize T.walk c true 2000 ⟨1, 0, namesOf p⟩ = r0' at hA hB
    obtain ⟨a1, a2, a3⟩ := hA
    obtain ⟨b1, b2, b3⟩ := hB
    by_cases z0 : r0'.2 = 0
    · by_cases z1 : r0'.1.node = 0
      · rw [b2 z0 z1] at hr; exact absurd hr (by decide)
      · rw [a3 z0 z1]
        have hb3 := b3 z0 z1
        rw [hb3] at hr ⊢
        unfold Tab.dotOf at hr ⊢
        split at hr
        · exact absurd hr (show ¬ (20 : Int) = 0 by decide)
        · split at hr
          · exact absurd hr (show ¬ (13 : Int) = 0 by decide)
          · rename_i w1' w2'
            rw [if_neg w1', if_neg w2']
    · rw [b1 z0] at hr; exact absurd hr z0
end Abs
end Go.Proofs.YtkopeigfjjbajaaGreat
