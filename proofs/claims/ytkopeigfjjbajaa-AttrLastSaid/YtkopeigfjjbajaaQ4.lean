import Derived.Test.YtkopeigfjjbajaaQ2
import Derived.Test.YtkopeigfjjbajaaT1
import Derived.Test.YtkopeigfjjbajaaS1
set_option linter.unusedVariables false
namespace Go.Proofs.Ytkopeigfjjbajaa
namespace Abs
set_option maxRecDepth 10000
attribute [local irreducible] AOps AW AP ACalls thenQ inBlk noGoto

/-! ### the document's chapter 09: tables as lists -/
def rget (l : List Node) (i : Int) : Node := if 1 ≤ i ∧ i ≤ l.length then l.getD (i - 1).toNat Node.zero else Node.zero
end Abs
end Go.Proofs.Ytkopeigfjjbajaa

set_option linter.unusedVariables false
namespace Go.Proofs.Ytkopeigfjjbajaa
namespace Abs
set_option maxRecDepth 10000
attribute [local irreducible] AOps AW AP ACalls thenQ inBlk noGoto

end Abs
end Go.Proofs.Ytkopeigfjjbajaa

set_option linter.unusedVariables false
namespace Go.Proofs.Ytkopeigfjjbajaa
namespace Abs
set_option maxRecDepth 10000
attribute [local irreducible] AOps AW AP ACalls thenQ inBlk noGoto

end Abs
end Go.Proofs.Ytkopeigfjjbajaa

set_option linter.unusedVariables false
namespace Go.Proofs.Ytkopeigfjjbajaa
namespace Abs
set_option maxRecDepth 10000
attribute [local irreducible] AOps AW AP ACalls thenQ inBlk noGoto

end Abs
end Go.Proofs.Ytkopeigfjjbajaa

set_option linter.unusedVariables false
namespace Go.Proofs.Ytkopeigfjjbajaa
namespace Abs
set_option maxRecDepth 10000
attribute [local irreducible] AOps AW AP ACalls thenQ inBlk noGoto

end Abs
end Go.Proofs.Ytkopeigfjjbajaa

set_option linter.unusedVariables false
namespace Go.Proofs.Ytkopeigfjjbajaa
namespace Abs
set_option maxRecDepth 10000
attribute [local irreducible] AOps AW AP ACalls thenQ inBlk noGoto

end Abs
end Go.Proofs.Ytkopeigfjjbajaa
