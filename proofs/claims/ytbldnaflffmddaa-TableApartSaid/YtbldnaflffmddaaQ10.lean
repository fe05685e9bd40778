import Derived.Test.YtbldnaflffmddaaQ4
import Derived.Test.YtbldnaflffmddaaA10
set_option linter.unusedVariables false
namespace Go.Proofs.Ytbldnaflffmddaa
namespace Abs
set_option maxRecDepth 10000
attribute [local irreducible] AOps AW AP ACalls thenQ inBlk noGoto

end Abs
end Go.Proofs.Ytbldnaflffmddaa

set_option linter.unusedVariables false
namespace Go.Proofs.Ytbldnaflffmddaa
namespace Abs
set_option maxRecDepth 10000
attribute [local irreducible] AOps AW AP ACalls thenQ inBlk noGoto

/-! ### a slice of the call's own that grows -/
def tokB : Own → Option Nat
  | .tok b _ _ => some b
  | _ => none
end Abs
end Go.Proofs.Ytbldnaflffmddaa

set_option linter.unusedVariables false
namespace Go.Proofs.Ytbldnaflffmddaa
namespace Abs
set_option maxRecDepth 10000
attribute [local irreducible] AOps AW AP ACalls thenQ inBlk noGoto

/-! ### a node as the document has it -/
def midM (n : Node) (k j : Nat) (o1 o2 : Own) : List AVal := [.i n.kind, .i n.mode, .i n.uid, .i n.gid, .s n.data, .sl (encNames (n.ents.take k)) o1, .sl (encKids (n.ents.take j)) o2, .s n.target]
structure MSt (n : Node) (b1 b2 b3 : Nat) (z : List AVal) (H : AHeap) (k j : Nat) (o1 o2 : Own) (Y : AHeap) : Prop where
  node : Rd Y b1 (encNode n)
  res : Y b2 = some (.cells z)
  mid : Y b3 = some (.cells (midM n k j o1 o2))
  own1 : Owned Y o1
  own2 : Owned Y o2
  es1 : ownEs 1 o1
  es2 : ownEs 1 o2
  ne : ∀ b, tokB o1 = some b → tokB o2 ≠ some b
  new1 : ∀ b, tokB o1 = some b → H b = none ∧ b ≠ b1 ∧ b ≠ b2 ∧ b ≠ b3
  new2 : ∀ b, tokB o2 = some b → H b = none ∧ b ≠ b1 ∧ b ≠ b2 ∧ b ≠ b3
  sub : ∀ x, H x ≠ none → Y x = H x
end Abs
end Go.Proofs.Ytbldnaflffmddaa

set_option linter.unusedVariables false
namespace Go.Proofs.Ytbldnaflffmddaa
namespace Abs
set_option maxRecDepth 10000
attribute [local irreducible] AOps AW AP ACalls thenQ inBlk noGoto

end Abs
end Go.Proofs.Ytbldnaflffmddaa
