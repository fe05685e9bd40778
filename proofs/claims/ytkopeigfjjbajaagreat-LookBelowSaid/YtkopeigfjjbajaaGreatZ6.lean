import Derived.Test.YtkopeigfjjbajaaGreatZ5
set_option linter.unusedVariables false
set_option linter.unusedSimpArgs false
namespace Go.Proofs.YtkopeigfjjbajaaGreat
namespace Abs
set_option maxRecDepth 10000
attribute [local irreducible] AOps AW ACalls thenQ inBlk noGoto
attribute [local irreducible] absOf

/-! ### a path in two parts: the plain law -/
theorem splitL_app : ∀ (p cur q : List UInt8), splitL cur (p ++ 47 :: q) = splitL cur p ++ splitL [] q
  | [], cur, q => by
    simp only [List.nil_append, splitL, if_true]
    split <;> simp
  | c :: p, cur, q => by
    have ih := fun cur => splitL_app p cur q
    simp only [List.cons_append, splitL]
    split
    · split
      · exact ih _
      · rw [ih]; rfl
    · exact ih _
theorem splitL_one : ∀ (n cur : List UInt8), (∀ x ∈ n, x ≠ 47) → splitL cur n = if cur ++ n = [] then [] else [cur ++ n]
  | [], cur, _ => by rw [List.append_nil]; rfl
  | c :: n, cur, h => by
    have h1 : c ≠ 47 := h c List.mem_cons_self
    simp only [splitL, if_neg h1]
    rw [splitL_one n _ (fun x hx => h x (List.mem_cons_of_mem _ hx)), List.append_assoc]
    rfl
theorem has_not {s : ByteArray} {b : UInt8} (h : hasB s b = false) : ∀ x ∈ byL s, x ≠ b := fun x hx e => by
  subst e
  have : hasB s x = true := List.contains_iff_mem.2 hx
  rw [h] at this; cases this
structure NameIs (s : ByteArray) : Prop where
  ne : s ≠ ⟨#[]⟩
  size : s.size ≤ 12
  dot : s ≠ dotS
  dots : s ≠ dotdotS
  slash : hasB s 47 = false
  nul : hasB s 0 = false
theorem name_is {s : ByteArray} (h : nameOk s = true) : NameIs s := by
  unfold nameOk at h
  simp only [Bool.and_eq_true, Bool.not_eq_true', decide_eq_false_iff_not, decide_eq_true_eq, Bool.or_eq_false_iff] at h
  obtain ⟨⟨⟨⟨h1, h2⟩, h3⟩, h4⟩, h5, h6⟩ := h
  exact ⟨h1, by omega, h3, h4, h5, h6⟩
theorem names_join {p s : ByteArray} (h : NameIs s) : namesOf (p ++ slashS ++ s) = namesOf p ++ [s] := by
  have hb : byL (p ++ slashS ++ s) = byL p ++ 47 :: byL s := by rw [app_byL, app_byL, List.append_assoc]; rfl
  have hs : byL s ≠ [] := fun e => h.ne (by rw [← ofL_byL s, e]; rfl)
  unfold namesOf
  rw [hb, splitL_app, splitL_one _ _ (has_not h.slash), List.nil_append, if_neg hs, List.map_append, List.map_singleton, ofL_byL]
theorem tail_none {s : ByteArray} (h : (byL s).getLast? ≠ some 47) : splitOf s = namesOf s := by
  rw [splitOf_tail, tailOf, if_neg h, List.append_nil]
  cases namesOf s <;> rfl
theorem split_join {p s : ByteArray} (hp : (byL p).getLast? ≠ some 47) (h : NameIs s) : splitOf (p ++ slashS ++ s) = splitOf p ++ [s] := by
  have hb : byL (p ++ slashS ++ s) = byL p ++ 47 :: byL s := by rw [app_byL, app_byL, List.append_assoc]; rfl
  have hs : byL s ≠ [] := fun e => h.ne (by rw [← ofL_byL s, e]; rfl)
  rw [tail_none hp, tail_none, names_join h]
  have hlast : (byL s).getLast? = some ((byL s).getLast hs) := List.getLast?_eq_some_getLast hs
  rw [hb, show byL p ++ 47 :: byL s = (byL p ++ [47]) ++ byL s by simp, List.getLast?_append, hlast]
  intro e
  have h2 : (byL s).getLast hs = 47 := by simpa using e
  exact has_not h.slash _ (List.getLast_mem hs) h2
theorem fits_join {T : Tab} {p s : ByteArray} (hp : p ≠ ⟨#[]⟩) (h40 : p.size ≤ 40) (h : NameIs s) : T.fitsE (p ++ slashS ++ s) = T.fitsE p := by
  have hsz : (p ++ slashS ++ s).size = p.size + 1 + s.size := by rw [ByteArray.size_append, ByteArray.size_append]; rfl
  have h12 := h.size
  have hne : p ++ slashS ++ s ≠ ⟨#[]⟩ := fun e => by rw [e] at hsz; have : (0 : Nat) = p.size + 1 + s.size := hsz; omega
  have h0 : hasB (p ++ slashS ++ s) 0 = hasB p 0 := by
    have h1 : hasB (p ++ slashS ++ s) 0 = (byL p ++ 47 :: byL s).contains 0 := by
      show (byL (p ++ slashS ++ s)).contains 0 = _
      rw [app_byL, app_byL, List.append_assoc]; rfl
    have h2 : (byL s).contains 0 = false := h.nul
    have h3 : hasB p 0 = (byL p).contains 0 := rfl
    rw [h1, h3]
    simp only [List.contains_append, List.contains_cons, h2]
    simp
  unfold Tab.fitsE
  rw [if_neg hne, if_neg hp, if_neg (show ¬ 64 < ((p ++ slashS ++ s).size : Int) by omega), if_neg (show ¬ 64 < (p.size : Int) by omega), h0]
def Tab.lastOf (T : Tab) (c : Cred) (name : ByteArray) (i : Int) : Found × Int :=
  if ¬ (T.at i).kind = 2 then (Found.zero, 20) else if T.can c i 1 = false then (Found.zero, 13) else (⟨i, name, (T.at i).find name⟩, 0)
theorem walk_last {T : Tab} {c : Cred} {name : ByteArray} (h : NameIs name) {f : Nat} {pos : Int} {links : Nat} : T.walk c false (f + 1) ⟨pos, links, [name]⟩ = T.lastOf c name pos := by
  have ht : T.take c false ⟨pos, links, [name]⟩ name [] = .inr (T.lastOf c name pos) := by
    unfold Tab.take Tab.lastOf
    by_cases k1 : ¬ (T.at pos).kind = 2
    · rw [if_pos k1, if_pos k1]
    rw [if_neg k1, if_neg k1]
    by_cases k2 : T.can c pos 1 = false
    · rw [if_pos k2, if_pos k2]
    have h12 := h.size
    rw [if_neg k2, if_neg k2, if_neg h.dot, if_neg h.dots, if_neg (show ¬ 12 < (name.size : Int) by omega), if_neg (fun q => absurd q.2 (Nat.lt_irrefl 0)), if_neg (fun q => by rcases q.2 with q | q; cases q; exact Nat.lt_irrefl 0 q), if_pos (show ([] : List ByteArray).length = 0 from rfl)]
  rw [walk_step (s := ⟨pos, links, [name]⟩) rfl, ht]
def PartsR (T : Tab) (c : Cred) (name : ByteArray) (r r' : Found × Int) : Prop :=
  (r.2 ≠ 0 → r' = (Found.zero, r.2)) ∧ (r.2 = 0 → r.1.node = 0 → r'.2 = 2) ∧ (r.2 = 0 → r.1.node ≠ 0 → r' = T.lastOf c name r.1.node)
theorem parts_fail {T : Tab} {c : Cred} {name : ByteArray} {e : Int} (h : e ≠ 0) : PartsR T c name (Found.zero, e) (Found.zero, e) := ⟨fun _ => rfl, fun q => absurd q h, fun q => absurd q h⟩
theorem walk_parts {T : Tab} (hg : T.good) (ht : T.tree) {c : Cred} {name : ByteArray} (hn : NameIs name) : ∀ (n : Nat) (pos : Int) (links : Nat) (l : List ByteArray) (f f' : Nat), Srch T c ⟨pos, links, l⟩ → links ≤ 8 → RSt.m ⟨pos, links, l⟩ < n → RSt.m ⟨pos, links, l⟩ < f → RSt.m ⟨pos, links, l ++ [name]⟩ < f' →
    PartsR T c name (T.walk c true f ⟨pos, links, l⟩) (T.walk c false f' ⟨pos, links, l ++ [name]⟩)
  | 0, _, _, _, _, _, _, _, h, _, _ => absurd h (Nat.not_lt_zero _)
  | n + 1, pos, links, l, f, f', hs, h8, hm, hf, hf' => by
    obtain ⟨f, rfl⟩ : ∃ g, f = g + 1 := ⟨f - 1, by omega⟩
    obtain ⟨f', rfl⟩ : ∃ g, f' = g + 1 := ⟨f' - 1, by omega⟩
    have hpos : ∀ {i : Int}, T.has i = true → i ≠ 0 := fun h e => by have := has_rng h; omega
    cases l with
    | nil =>
      rw [walk_end (s := ⟨pos, links, []⟩) rfl, List.nil_append, walk_last hn]
      exact ⟨fun q => absurd rfl q, fun _ q => absurd q (hpos hs.has), fun _ _ => rfl⟩
    | cons x l =>
      have hsr := take_srch (fo := true) hg ht hs (name := x) (rest := l) rfl
      have key : (∃ r r', T.take c true ⟨pos, links, x :: l⟩ x l = .inr r ∧ T.take c false ⟨pos, links, x :: l ++ [name]⟩ x (l ++ [name]) = .inr r' ∧ PartsR T c name r r') ∨
          (∃ p k a, T.take c true ⟨pos, links, x :: l⟩ x l = .inl ⟨p, k, a⟩ ∧ T.take c false ⟨pos, links, x :: l ++ [name]⟩ x (l ++ [name]) = .inl ⟨p, k, a ++ [name]⟩) ∨
          (∃ p r, T.take c true ⟨pos, links, x :: l⟩ x l = .inr (r, 0) ∧ r.node = p ∧ p ≠ 0 ∧ T.take c false ⟨pos, links, x :: l ++ [name]⟩ x (l ++ [name]) = .inl ⟨p, links, [name]⟩) := by
        unfold Tab.take
        simp only
        by_cases k1 : ¬ (T.at pos).kind = 2
        · rw [if_pos k1, if_pos k1]; exact .inl ⟨_, _, rfl, rfl, parts_fail (by decide)⟩
        rw [if_neg k1, if_neg k1]
        by_cases k2 : T.can c pos 1 = false
        · rw [if_pos k2, if_pos k2]; exact .inl ⟨_, _, rfl, rfl, parts_fail (by decide)⟩
        rw [if_neg k2, if_neg k2]
        by_cases k3 : x = dotS
        · rw [if_pos k3, if_pos k3]; exact .inr (.inl ⟨_, _, _, rfl, rfl⟩)
        rw [if_neg k3, if_neg k3]
        by_cases k4 : x = dotdotS
        · rw [if_pos k4, if_pos k4]; exact .inr (.inl ⟨_, _, _, rfl, rfl⟩)
        rw [if_neg k4, if_neg k4]
        by_cases k5 : 12 < (x.size : Int)
        · rw [if_pos k5, if_pos k5]; exact .inl ⟨_, _, rfl, rfl, parts_fail (by decide)⟩
        rw [if_neg k5, if_neg k5]
        have hl1 : 0 < (l ++ [name]).length := by rw [List.length_append]; exact Nat.lt_of_lt_of_le Nat.zero_lt_one (Nat.le_add_left _ _)
        have hl0 : ¬ (l ++ [name]).length = 0 := by omega
        by_cases k6 : (T.at pos).find x = 0
        · rw [if_pos (show (T.at pos).find x = 0 ∧ 0 < (l ++ [name]).length from ⟨k6, hl1⟩)]
          by_cases k7 : 0 < l.length
          · rw [if_pos ⟨k6, k7⟩]; exact .inl ⟨_, _, rfl, rfl, parts_fail (by decide)⟩
          · have hz : T.at 0 = Node.zero := at_none (by cases hh : T.has 0 with | false => rfl | true => have := has_rng hh; omega)
            have hl : l.length = 0 := by omega
            rw [if_neg (fun q => k7 q.2), k6, hz, if_neg (fun q => by cases q.1), if_pos hl]
            exact .inl ⟨_, _, rfl, rfl, fun q => absurd rfl q, fun _ _ => rfl, fun _ q => absurd rfl q⟩
        rw [if_neg (show ¬ ((T.at pos).find x = 0 ∧ 0 < l.length) from fun q => k6 q.1), if_neg (show ¬ ((T.at pos).find x = 0 ∧ 0 < (l ++ [name]).length) from fun q => k6 q.1)]
        by_cases k8 : (T.at ((T.at pos).find x)).kind = 3
        · rw [if_pos (show (T.at ((T.at pos).find x)).kind = 3 ∧ (True ∨ 0 < l.length) from ⟨k8, .inl trivial⟩), if_pos (show (T.at ((T.at pos).find x)).kind = 3 ∧ (false = true ∨ 0 < (l ++ [name]).length) from ⟨k8, .inr hl1⟩)]
          by_cases k9 : links = 8
          · rw [if_pos k9, if_pos k9]; exact .inl ⟨_, _, rfl, rfl, parts_fail (by decide)⟩
          · rw [if_neg k9, if_neg k9, ← List.append_assoc]; exact .inr (.inl ⟨_, _, _, rfl, rfl⟩)
        rw [if_neg (show ¬ ((T.at ((T.at pos).find x)).kind = 3 ∧ (True ∨ 0 < l.length)) from fun q => k8 q.1), if_neg (show ¬ ((T.at ((T.at pos).find x)).kind = 3 ∧ (false = true ∨ 0 < (l ++ [name]).length)) from fun q => k8 q.1), if_neg hl0]
        by_cases k10 : l.length = 0
        · rw [if_pos k10]
          have : l = [] := List.length_eq_zero_iff.1 k10
          subst this
          exact .inr (.inr ⟨_, _, rfl, rfl, k6, rfl⟩)
        · rw [if_neg k10]; exact .inr (.inl ⟨_, _, _, rfl, rfl⟩)
      rw [walk_step (s := ⟨pos, links, x :: l⟩) rfl, walk_step (s := ⟨pos, links, x :: l ++ [name]⟩) (name := x) (rest := l ++ [name]) rfl]
      rcases key with ⟨r, r', e1, e2, h⟩ | ⟨p, k, a, e1, e2⟩ | ⟨p, r, e1, e3, e4, e2⟩
      · rw [e1, e2]; exact h
      · obtain ⟨m1, m2⟩ := take_m hg h8 rfl e1
        obtain ⟨m3, m4⟩ := take_m hg h8 rfl e2
        have hs' := hsr.1 _ e1
        rw [e1, e2]
        exact walk_parts hg ht hn n p k a f f' hs' m2 (by omega) (by omega) (by omega)
      · obtain ⟨m3, m4⟩ := take_m hg h8 rfl e2
        rw [e1, e2]
        have hm1 : 1 ≤ RSt.m ⟨p, links, [name]⟩ := Nat.le_add_left _ _
        obtain ⟨f', rfl⟩ : ∃ g, f' = g + 1 := ⟨f' - 1, by omega⟩
        simp only
        rw [walk_last hn]
        exact ⟨fun q => absurd rfl q, fun _ q => absurd (e3 ▸ q) e4, fun _ _ => by rw [e3]⟩
theorem join_eq {p s : ByteArray} (hp : p ≠ ⟨#[]⟩) (hl : (byL p).getLast? ≠ some 47) : joinOf p s = p ++ slashS ++ s := by
  unfold joinOf
  rw [endOf_last, decide_eq_false hp, decide_eq_false hl]
  rfl
theorem resolve_parts {T : Tab} (hg : T.good) (ht : T.tree) {c : Cred} {p s : ByteArray} (hp : p ≠ ⟨#[]⟩) (h40 : p.size ≤ 40) (hl : (byL p).getLast? ≠ some 47) (hn : nameOk s = true) : PartsR T c s (T.resolve c p true) (T.resolve c (joinOf p s) false) := by
  have hi := name_is hn
  rw [join_eq hp hl]
  unfold Tab.resolve
  rw [fits_join hp h40 hi, split_join hl hi]
  split
  · rename_i h
    have m1 := start_m h 1
    have hf2 : T.fitsE (p ++ slashS ++ s) = 0 := by rw [fits_join hp h40 hi]; exact h
    have m2 := start_m hf2 1
    rw [split_join hl hi] at m2
    exact walk_parts hg ht hi 2000 1 0 _ 2000 2000 ⟨has_kind'.2 (by rw [ht.root]; decide), fun _ => anc1 hg ht c, fun _ => ht.root, fun x hx => splitOf_ne _ x hx⟩ (Nat.zero_le _) m1 m1 m2
  · rename_i h; exact parts_fail h
end Abs
end Go.Proofs.YtkopeigfjjbajaaGreat
