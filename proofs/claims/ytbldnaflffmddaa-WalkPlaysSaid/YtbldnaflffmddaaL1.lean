import Derived.Test.YtbldnaflffmddaaT1
import Derived.Test.YtbldnaflffmddaaQ1
import Derived.Test.YtbldnaflffmddaaA10
import Derived.Test.YtbldnaflffmddaaQ10
set_option linter.unusedVariables false
namespace Go.Proofs.Ytbldnaflffmddaa
namespace Abs
set_option maxRecDepth 10000
attribute [local irreducible] AOps AW ACalls thenQ inBlk noGoto

/-! ### package gaolerlaw09: few, small, awake -/
structure Ac where
  kind : Nat
  i : Int
  n : Node
def Node.len (n : Node) : Prop := n.ents.length ≤ 9223372036854775807
def Node.few (n : Node) : Prop := n.ents.length ≤ 20 ∧ n.data.size ≤ 100 ∧ n.target.size ≤ 100 ∧ ∀ e ∈ n.ents, e.name.size ≤ 40
theorem Node.few.small {n : Node} (h : n.few) : n.small := ⟨by have := h.2.1; omega, by have := h.1; omega⟩

end Abs
end Go.Proofs.Ytbldnaflffmddaa

set_option linter.unusedVariables false
namespace Go.Proofs.Ytbldnaflffmddaa
namespace Abs
set_option maxRecDepth 10000
attribute [local irreducible] AOps AW ACalls thenQ inBlk noGoto

/-! ### the document's example -/
end Abs
end Go.Proofs.Ytbldnaflffmddaa

set_option linter.unusedVariables false
namespace Go.Proofs.Ytbldnaflffmddaa
namespace Abs
set_option maxRecDepth 10000
attribute [local irreducible] AOps AW ACalls thenQ inBlk noGoto

/-! ### what a table counts -/
/-! ### the numbers that are used, as the law keeps them -/
end Abs
end Go.Proofs.Ytbldnaflffmddaa

set_option linter.unusedVariables false
namespace Go.Proofs.Ytbldnaflffmddaa
namespace Abs
set_option maxRecDepth 10000
attribute [local irreducible] AOps AW ACalls thenQ inBlk noGoto

/-! ### all entries, and all links: the plain law -/
def Tab.all (T : Tab) : Nat → List Int
  | 0 => []
  | k + 1 => T.all k ++ (T.nd k).ents.map (·.node)
def cnt (i : Int) (A : List Int) : Nat := (A.filter fun a => decide (a = i)).length
end Abs
end Go.Proofs.Ytbldnaflffmddaa

set_option linter.unusedVariables false
namespace Go.Proofs.Ytbldnaflffmddaa
namespace Abs
set_option maxRecDepth 10000
attribute [local irreducible] AOps AW ACalls thenQ inBlk noGoto

/-! ### a table, and its nodes as a list: the plain law -/
/-- A list that tells a table's nodes. -/
structure Rel (T : Tab) (L : List Node) : Prop where
  len : T.room ≤ L.length
  most : L.length ≤ 1000
  get : ∀ k : Nat, L.getD k Node.zero = T.nd k
end Abs
end Go.Proofs.Ytbldnaflffmddaa
