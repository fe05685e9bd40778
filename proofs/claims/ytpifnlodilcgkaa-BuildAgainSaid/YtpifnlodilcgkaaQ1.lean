import Derived.Test.YtpifnlodilcgkaaN1
import Derived.Test.YtpifnlodilcgkaaA10
set_option linter.unusedVariables false
namespace Go.Proofs.Ytpifnlodilcgkaa
namespace Abs
set_option maxRecDepth 10000

/-! ### the document's chapter 07: names -/
/-! ### Less -/
end Abs
end Go.Proofs.Ytpifnlodilcgkaa

set_option linter.unusedVariables false
namespace Go.Proofs.Ytpifnlodilcgkaa
namespace Abs
set_option maxRecDepth 10000

/-! ### the document's chapter 08: nodes -/
def encNames (l : List Ent) : List (List AVal) := l.map fun e => [.s e.name]
def encKids (l : List Ent) : List (List AVal) := l.map fun e => [.i e.node]
def Node.nlen (n : Node) : Prop := n.ents.length ≤ 1073741824 ∧ ∀ e ∈ n.ents, e.name.size ≤ 1073741824
end Abs
end Go.Proofs.Ytpifnlodilcgkaa

set_option linter.unusedVariables false
namespace Go.Proofs.Ytpifnlodilcgkaa
namespace Abs
set_option maxRecDepth 10000

end Abs
end Go.Proofs.Ytpifnlodilcgkaa
