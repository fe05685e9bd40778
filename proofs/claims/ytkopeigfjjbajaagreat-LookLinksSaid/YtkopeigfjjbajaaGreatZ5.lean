import Derived.Test.YtkopeigfjjbajaaGreatZ4
set_option linter.unusedVariables false
set_option linter.unusedSimpArgs false
namespace Go.Proofs.YtkopeigfjjbajaaGreat
namespace Abs
set_option maxRecDepth 10000
attribute [local irreducible] AOps AW ACalls thenQ inBlk noGoto

/-! ### dots between names: the plain law -/
inductive Dots : List ByteArray → List ByteArray → Prop where
  | nil : Dots [] []
  | cons {l l' : List ByteArray} (x : ByteArray) : Dots l l' → Dots (x :: l) (x :: l')
  | dot {l l' : List ByteArray} (x : ByteArray) : Dots (x :: l) l' → Dots (x :: l) (dotS :: l')
theorem Dots.refl : ∀ l : List ByteArray, Dots l l
  | [] => .nil
  | x :: l => .cons x (Dots.refl l)
theorem Dots.len {l l' : List ByteArray} (h : Dots l l') : (l.length = 0 ↔ l'.length = 0) := by
  cases h <;> simp
def tailOf (r : List UInt8) : List ByteArray := if r.getLast? = some 47 then [dotS] else []
theorem endOf_last (s : ByteArray) : endOf s = decide ((byL s).getLast? = some 47) := by
  unfold endOf
  refine decide_eq_decide.2 ?_
  rw [List.getLast?_eq_getElem?, byL_len]
theorem splitOf_tail (s : ByteArray) : splitOf s = if (namesOf s).isEmpty = true then [] else namesOf s ++ tailOf (byL s) := by
  unfold splitOf tailOf
  rw [endOf_last]
  cases h : namesOf s with
  | nil => simp
  | cons a l =>
    by_cases e : (byL s).getLast? = some 47
    · rw [if_pos e, decide_eq_true e]; simp; rfl
    · rw [if_neg e, decide_eq_false e]; simp
end Abs
end Go.Proofs.YtkopeigfjjbajaaGreat
