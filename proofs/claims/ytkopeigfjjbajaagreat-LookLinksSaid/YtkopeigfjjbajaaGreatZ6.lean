import Derived.Test.YtkopeigfjjbajaaGreatZ5
set_option linter.unusedVariables false
set_option linter.unusedSimpArgs false
namespace Go.Proofs.YtkopeigfjjbajaaGreat
namespace Abs
set_option maxRecDepth 10000
attribute [local irreducible] AOps AW ACalls thenQ inBlk noGoto
attribute [local irreducible] absOf

/-! ### a path in two parts: the plain law -/
theorem splitL_app : ∀ (p cur q : List UInt8), splitL cur (p ++ 47 :: q) = splitL cur p ++ splitL [] q
  | [], cur, q => by
    simp only [List.nil_append, splitL, if_true]
    split <;> simp
  | c :: p, cur, q => by
    have ih := fun cur => splitL_app p cur q
    simp only [List.cons_append, splitL]
    split
    · split
      · exact ih _
      · rw [ih]; rfl
    · exact ih _
theorem splitL_one : ∀ (n cur : List UInt8), (∀ x ∈ n, x ≠ 47) → splitL cur n = if cur ++ n = [] then [] else [cur ++ n]
  | [], cur, _ => by rw [List.append_nil]; rfl
  | c :: n, cur, h => by
    have h1 : c ≠ 47 := h c List.mem_cons_self
    simp only [splitL, if_neg h1]
    rw [splitL_one n _ (fun x hx => h x (List.mem_cons_of_mem _ hx)), List.append_assoc]
    rfl
theorem has_not {s : ByteArray} {b : UInt8} (h : hasB s b = false) : ∀ x ∈ byL s, x ≠ b := fun x hx e => by
  subst e
  have : hasB s x = true := List.contains_iff_mem.2 hx
  rw [h] at this; cases this
structure NameIs (s : ByteArray) : Prop where
  ne : s ≠ ⟨#[]⟩
  size : s.size ≤ 12
  dot : s ≠ dotS
  dots : s ≠ dotdotS
  slash : hasB s 47 = false
  nul : hasB s 0 = false
theorem name_is {s : ByteArray} (h : nameOk s = true) : NameIs s := by
  unfold nameOk at h
  simp only [Bool.and_eq_true, Bool.not_eq_true', decide_eq_false_iff_not, decide_eq_true_eq, Bool.or_eq_false_iff] at h
  obtain ⟨⟨⟨⟨h1, h2⟩, h3⟩, h4⟩, h5, h6⟩ := h
  exact ⟨h1, by omega, h3, h4, h5, h6⟩
theorem tail_none {s : ByteArray} (h : (byL s).getLast? ≠ some 47) : splitOf s = namesOf s := by
  rw [splitOf_tail, tailOf, if_neg h, List.append_nil]
  cases namesOf s <;> rfl
def Tab.lastOf (T : Tab) (c : Cred) (name : ByteArray) (i : Int) : Found × Int :=
  if ¬ (T.at i).kind = 2 then (Found.zero, 20) else if T.can c i 1 = false then (Found.zero, 13) else (⟨i, name, (T.at i).find name⟩, 0)
theorem walk_last {T : Tab} {c : Cred} {name : ByteArray} (h : NameIs name) {f : Nat} {pos : Int} {links : Nat} : T.walk c false (f + 1) ⟨pos, links, [name]⟩ = T.lastOf c name pos := by
  have ht : T.take c false ⟨pos, links, [name]⟩ name [] = .inr (T.lastOf c name pos) := by
    unfold Tab.take Tab.lastOf
    by_cases k1 : ¬ (T.at pos).kind = 2
    · rw [if_pos k1, if_pos k1]
    rw [if_neg k1, if_neg k1]
    by_cases k2 : T.can c pos 1 = false
    · rw [if_pos k2, if_pos k2]
    have h12 := h.size
    rw [if_neg k2, if_neg k2, if_neg h.dot, if_neg h.dots, if_neg (show ¬ 12 < (name.size : Int) by omega), if_neg (fun q => absurd q.2 (Nat.lt_irrefl 0)), if_neg (fun q => by rcases q.2 with q | q; cases q; exact Nat.lt_irrefl 0 q), if_pos (show ([] : List ByteArray).length = 0 from rfl)]
  rw [walk_step (s := ⟨pos, links, [name]⟩) rfl, ht]
end Abs
end Go.Proofs.YtkopeigfjjbajaaGreat
