import Derived.Test.YtpmnfbgnlanpoaaXA
import Derived.Test.YtpmnfbgnlanpoaaZ1
import Derived.Test.YtpmnfbgnlanpoaaXD
set_option linter.unusedVariables false
namespace Go.Proofs.Ytpmnfbgnlanpoaa
namespace Abs
set_option maxRecDepth 10000
attribute [local irreducible] AOps AW ACalls thenQ inBlk noGoto

/-! ### walks through trees: the plain law -/
/-! names of a path are not empty -/
/-! ### what is found may be searched for -/
def Tab.up (T : Tab) : Nat → Int → Int
  | 0, i => i
  | n + 1, i => T.up n (T.parent i)
def Anc (T : Tab) (c : Cred) (i : Int) : Prop := ∀ n : Nat, T.up (n + 1) i ≠ 0 → T.can c (T.up (n + 1) i) 1 = true
theorem up_succ (T : Tab) : ∀ (n : Nat) (i : Int), T.up (n + 1) i = T.parent (T.up n i)
  | 0, i => rfl
  | n + 1, i => by rw [Tab.up, up_succ T n]; rfl
theorem up_add (T : Tab) : ∀ (a b : Nat) (i : Int), T.up (a + b) i = T.up a (T.up b i)
  | a, 0, i => rfl
  | a, b + 1, i => by
    show T.up (a + b) (T.parent i) = T.up a (T.up b (T.parent i))
    exact up_add T a b _
theorem rooted_up {T : Tab} : ∀ (n : Nat) (i : Int), T.rooted n i = true → ∃ k, k < n ∧ T.up k i = 1
  | 0, i, h => by cases h
  | n + 1, i, h => by
    rw [Tab.rooted] at h
    split at h
    · rename_i e; exact ⟨0, by omega, e⟩
    · obtain ⟨k, h1, h2⟩ := rooted_up n _ h
      exact ⟨k + 1, by omega, h2⟩
theorem dir_of_ent {T : Tab} (hg : T.good) {d i : Int} (h : T.ent d i) : (T.at d).kind = 2 := by
  obtain ⟨e, he, _⟩ := h
  rcases at_zero_ok hg d with z | z
  · rw [z] at he; cases he
  · by_cases hk2 : (T.at d).kind = 2
    · exact hk2
    · rw [nodir_ents0 z hk2] at he; cases he
structure Srch (T : Tab) (c : Cred) (s : RSt) : Prop where
  has : T.has s.pos = true
  anc : (T.at s.pos).kind = 2 → Anc T c s.pos
  emp : s.left = [] → (T.at s.pos).kind = 2
  ne : ∀ x ∈ s.left, x ≠ ⟨#[]⟩
end Abs
end Go.Proofs.Ytpmnfbgnlanpoaa

set_option linter.unusedVariables false
namespace Go.Proofs.Ytpmnfbgnlanpoaa
namespace Abs
set_option maxRecDepth 10000
attribute [local irreducible] AOps AW ACalls thenQ inBlk noGoto
attribute [local irreducible] absOf endOf

/-! ### root, and who has the bits: the plain law -/
def rootC : Cred := ⟨0, 0, []⟩
theorem root_can (T : Tab) (i want : Int) : T.can rootC i want = T.has i := by
  unfold Tab.can Cred.can Cred.root rootC
  simp
/-- Two tables that differ in modes alone; in the second one each directory lets who asks search it. -/
structure Open (T U : Tab) (c : Cred) : Prop where
  kind : ∀ i, (U.at i).kind = (T.at i).kind
  ents : ∀ i, (U.at i).ents = (T.at i).ents
  target : ∀ i, (U.at i).target = (T.at i).target
  parent : ∀ i, U.parent i = T.parent i
  can : ∀ i, (T.at i).kind = 2 → U.can c i 1 = true
theorem Open.has {T U : Tab} {c : Cred} (h : Open T U c) (i : Int) : U.has i = T.has i := by
  have h1 := has_kind' (T := U) (d := i)
  have h2 := has_kind' (T := T) (d := i)
  rw [h.kind] at h1
  cases hu : U.has i <;> cases ht : T.has i <;> simp_all
theorem Open.find {T U : Tab} {c : Cred} (h : Open T U c) (i : Int) (name : ByteArray) : (U.at i).find name = (T.at i).find name := by
  unfold Node.find Node.place
  rw [h.ents]
end Abs
end Go.Proofs.Ytpmnfbgnlanpoaa

set_option linter.unusedVariables false
set_option linter.unusedSimpArgs false
namespace Go.Proofs.Ytpmnfbgnlanpoaa
namespace Abs
set_option maxRecDepth 10000
attribute [local irreducible] AOps AW ACalls thenQ inBlk noGoto

/-! ### dots between names: the plain law -/
inductive Dots : List ByteArray → List ByteArray → Prop where
  | nil : Dots [] []
  | cons {l l' : List ByteArray} (x : ByteArray) : Dots l l' → Dots (x :: l) (x :: l')
  | dot {l l' : List ByteArray} (x : ByteArray) : Dots (x :: l) l' → Dots (x :: l) (dotS :: l')
theorem Dots.refl : ∀ l : List ByteArray, Dots l l
  | [] => .nil
  | x :: l => .cons x (Dots.refl l)
theorem Dots.len {l l' : List ByteArray} (h : Dots l l') : (l.length = 0 ↔ l'.length = 0) := by
  cases h <;> simp
def tailOf (r : List UInt8) : List ByteArray := if r.getLast? = some 47 then [dotS] else []
theorem endOf_last (s : ByteArray) : endOf s = decide ((byL s).getLast? = some 47) := by
  unfold endOf
  refine decide_eq_decide.2 ?_
  rw [List.getLast?_eq_getElem?, byL_len]
theorem splitOf_tail (s : ByteArray) : splitOf s = if (namesOf s).isEmpty = true then [] else namesOf s ++ tailOf (byL s) := by
  unfold splitOf tailOf
  rw [endOf_last]
  cases h : namesOf s with
  | nil => simp
  | cons a l =>
    by_cases e : (byL s).getLast? = some 47
    · rw [if_pos e, decide_eq_true e]; simp; rfl
    · rw [if_neg e, decide_eq_false e]; simp
end Abs
end Go.Proofs.Ytpmnfbgnlanpoaa

set_option linter.unusedVariables false
set_option linter.unusedSimpArgs false
namespace Go.Proofs.Ytpmnfbgnlanpoaa
namespace Abs
set_option maxRecDepth 10000
attribute [local irreducible] AOps AW ACalls thenQ inBlk noGoto
attribute [local irreducible] absOf

/-! ### a path in two parts: the plain law -/
theorem splitL_one : ∀ (n cur : List UInt8), (∀ x ∈ n, x ≠ 47) → splitL cur n = if cur ++ n = [] then [] else [cur ++ n]
  | [], cur, _ => by rw [List.append_nil]; rfl
  | c :: n, cur, h => by
    have h1 : c ≠ 47 := h c List.mem_cons_self
    simp only [splitL, if_neg h1]
    rw [splitL_one n _ (fun x hx => h x (List.mem_cons_of_mem _ hx)), List.append_assoc]
    rfl
theorem has_not {s : ByteArray} {b : UInt8} (h : hasB s b = false) : ∀ x ∈ byL s, x ≠ b := fun x hx e => by
  subst e
  have : hasB s x = true := List.contains_iff_mem.2 hx
  rw [h] at this; cases this
structure NameIs (s : ByteArray) : Prop where
  ne : s ≠ ⟨#[]⟩
  size : s.size ≤ 12
  dot : s ≠ dotS
  dots : s ≠ dotdotS
  slash : hasB s 47 = false
  nul : hasB s 0 = false
theorem name_is {s : ByteArray} (h : nameOk s = true) : NameIs s := by
  unfold nameOk at h
  simp only [Bool.and_eq_true, Bool.not_eq_true', decide_eq_false_iff_not, decide_eq_true_eq, Bool.or_eq_false_iff] at h
  obtain ⟨⟨⟨⟨h1, h2⟩, h3⟩, h4⟩, h5, h6⟩ := h
  exact ⟨h1, by omega, h3, h4, h5, h6⟩
theorem tail_none {s : ByteArray} (h : (byL s).getLast? ≠ some 47) : splitOf s = namesOf s := by
  rw [splitOf_tail, tailOf, if_neg h, List.append_nil]
  cases namesOf s <;> rfl
def Tab.lastOf (T : Tab) (c : Cred) (name : ByteArray) (i : Int) : Found × Int :=
  if ¬ (T.at i).kind = 2 then (Found.zero, 20) else if T.can c i 1 = false then (Found.zero, 13) else (⟨i, name, (T.at i).find name⟩, 0)
theorem walk_last {T : Tab} {c : Cred} {name : ByteArray} (h : NameIs name) {f : Nat} {pos : Int} {links : Nat} : T.walk c false (f + 1) ⟨pos, links, [name]⟩ = T.lastOf c name pos := by
  have ht : T.take c false ⟨pos, links, [name]⟩ name [] = .inr (T.lastOf c name pos) := by
    unfold Tab.take Tab.lastOf
    by_cases k1 : ¬ (T.at pos).kind = 2
    · rw [if_pos k1, if_pos k1]
    rw [if_neg k1, if_neg k1]
    by_cases k2 : T.can c pos 1 = false
    · rw [if_pos k2, if_pos k2]
    have h12 := h.size
    rw [if_neg k2, if_neg k2, if_neg h.dot, if_neg h.dots, if_neg (show ¬ 12 < (name.size : Int) by omega), if_neg (fun q => absurd q.2 (Nat.lt_irrefl 0)), if_neg (fun q => by rcases q.2 with q | q; cases q; exact Nat.lt_irrefl 0 q), if_pos (show ([] : List ByteArray).length = 0 from rfl)]
  rw [walk_step (s := ⟨pos, links, [name]⟩) rfl, ht]
end Abs
end Go.Proofs.Ytpmnfbgnlanpoaa
