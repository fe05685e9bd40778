import Derived.Test.YtkopeigfjjbajaaGreatT1
import Derived.Test.YtkopeigfjjbajaaGreatA10
set_option linter.unusedVariables false
namespace Go.Proofs.YtkopeigfjjbajaaGreat
namespace Abs
set_option maxRecDepth 10000
attribute [local irreducible] AOps AW AP ACalls thenQ inBlk noGoto

/-! ### node.Same -/
instance : DecidableEq Ent := fun a b => decidable_of_iff (a.name = b.name ∧ a.node = b.node) ⟨fun h => by cases a; cases b; simp_all, fun h => by subst h; exact ⟨rfl, rfl⟩⟩
def Node.same (a b : Node) : Bool := decide (a.kind = b.kind) && decide (a.mode = b.mode) && decide (a.uid = b.uid) && decide (a.gid = b.gid) && decide (a.target = b.target) && decide (a.data = b.data) && decide (a.ents = b.ents)
end Abs
end Go.Proofs.YtkopeigfjjbajaaGreat

set_option linter.unusedVariables false
namespace Go.Proofs.YtkopeigfjjbajaaGreat
namespace Abs
set_option maxRecDepth 10000
attribute [local irreducible] AOps AW AP ACalls thenQ inBlk noGoto

def Tab.sameTo (T U : Tab) : Nat → Bool
  | 0 => true
  | k + 1 => T.sameTo U k && (T.nd k).same (U.nd k)
def Tab.same (T U : Tab) : Bool := T.sameTo U 24
end Abs
end Go.Proofs.YtkopeigfjjbajaaGreat

set_option linter.unusedVariables false
namespace Go.Proofs.YtkopeigfjjbajaaGreat
namespace Abs
set_option maxRecDepth 10000
attribute [local irreducible] AOps AW AP ACalls thenQ inBlk noGoto

def encInts (l : List Int) : List (List AVal) := l.map fun n => [.i n]
theorem ints_len (l : List Int) : (encInts l).length = l.length := by simp [encInts]
def Tab.rooted (T : Tab) : Nat → Int → Bool
  | 0, _ => false
  | n + 1, i => if i = 1 then true else T.rooted n (T.parent i)
end Abs
end Go.Proofs.YtkopeigfjjbajaaGreat

set_option linter.unusedVariables false
namespace Go.Proofs.YtkopeigfjjbajaaGreat
namespace Abs
set_option maxRecDepth 10000
attribute [local irreducible] AOps AW AP ACalls thenQ inBlk noGoto

/-! ### no table -/
end Abs
end Go.Proofs.YtkopeigfjjbajaaGreat
