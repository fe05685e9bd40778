import Derived.Test.YtkopeigfjjbajaaGreatQ1
set_option linter.unusedVariables false
namespace Go.Proofs.YtkopeigfjjbajaaGreat
namespace Abs
set_option maxRecDepth 10000
attribute [local irreducible] AOps AW AP ACalls thenQ inBlk noGoto

/-! ### the document's chapter 08: nodes -/
def encNames (l : List Ent) : List (List AVal) := l.map fun e => [.s e.name]
def encKids (l : List Ent) : List (List AVal) := l.map fun e => [.i e.node]
def Node.nlen (n : Node) : Prop := n.ents.length ≤ 1073741824 ∧ ∀ e ∈ n.ents, e.name.size ≤ 1073741824
end Abs
end Go.Proofs.YtkopeigfjjbajaaGreat

set_option linter.unusedVariables false
namespace Go.Proofs.YtkopeigfjjbajaaGreat
namespace Abs
set_option maxRecDepth 10000
attribute [local irreducible] AOps AW AP ACalls thenQ inBlk noGoto

end Abs
end Go.Proofs.YtkopeigfjjbajaaGreat
