import Derived.Test.YtmokoofibnoojaaQ8
import Derived.Test.YtmokoofibnoojaaA13
set_option linter.unusedVariables false
namespace Go.Proofs.Ytmokoofibnoojaa
namespace Abs
set_option maxRecDepth 10000
attribute [local irreducible] AOps AW AP ACalls thenQ inBlk noGoto

def rstep (l : List Node) (op : List Int) (k : Nat) : Bool :=
  ((l.getD k Node.zero).ents.all fun e => ris l e.node) &&
    (!(decide ((l.getD k Node.zero).kind = 2) && decide ((k : Int) + 1 > 1) && (!decide (rlinks l (k + 1) = 1) || !rrooted l 24 (k + 1))) &&
     !((decide ((l.getD k Node.zero).kind = 1) || decide ((l.getD k Node.zero).kind = 3)) && decide (rlinks l (k + 1) = 0) && !op.contains ((k : Int) + 1)))
def rrightTo (l : List Node) (op : List Int) : Nat → Bool
  | 0 => true
  | k + 1 => rrightTo l op k && rstep l op k
def rright (l : List Node) (op : List Int) : Bool := decide ((rget l 1).kind = 2) && !decide (rlinks l 1 > 0) && rrightTo l op l.length
theorem rrightTo_le {l : List Node} {op : List Int} {k : Nat} (h : rrightTo l op (k + 1) = false) : ∀ j : Nat, k < j → rrightTo l op j = false
  | 0, h' => absurd h' (Nat.not_lt_zero _)
  | j + 1, h' => by
    rcases Nat.lt_or_ge k j with h2 | h2
    · simp only [rrightTo, rrightTo_le h j h2, Bool.false_and]
    · have : j = k := by omega
      subst this; exact h
end Abs
end Go.Proofs.Ytmokoofibnoojaa
