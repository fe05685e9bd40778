import Derived.Test.YtmokoofibnoojaaQ5
set_option linter.unusedVariables false
namespace Go.Proofs.Ytmokoofibnoojaa
namespace Abs
set_option maxRecDepth 10000
attribute [local irreducible] AOps AW ACalls thenQ inBlk noGoto

def rused (l : List Node) : Nat → Int
  | 0 => 0
  | k + 1 => rused l k + if (l.getD k Node.zero).kind = 0 then 0 else 1
theorem rused_le (l : List Node) : ∀ k : Nat, 0 ≤ rused l k ∧ rused l k ≤ k
  | 0 => ⟨Int.le_refl _, Int.le_refl _⟩
  | k + 1 => by
    have := rused_le l k
    simp only [rused]
    split <;> omega
end Abs
end Go.Proofs.Ytmokoofibnoojaa
