import Derived.Test.YtkopeigfjjbajaaGreatM1
import Derived.Test.YtkopeigfjjbajaaGreatS1
import Derived.Test.YtkopeigfjjbajaaGreatL1
import Derived.Test.YtkopeigfjjbajaaGreatQ4
import Derived.Test.YtkopeigfjjbajaaGreatQ2
set_option linter.unusedVariables false
namespace Go.Proofs.YtkopeigfjjbajaaGreat
namespace Abs
set_option linter.unusedSimpArgs false
set_option maxRecDepth 10000
set_option maxHeartbeats 2000000
attribute [local irreducible] AOps AW AP ACalls thenQ inBlk noGoto

/-! ### chapter 08: the document's example -/
end Abs
end Go.Proofs.YtkopeigfjjbajaaGreat

set_option linter.unusedVariables false
namespace Go.Proofs.YtkopeigfjjbajaaGreat
namespace Abs
set_option linter.unusedSimpArgs false
set_option maxRecDepth 10000
set_option maxHeartbeats 2000000
attribute [local irreducible] AOps AW AP ACalls thenQ inBlk noGoto

/-! ### NodeRight, NodeChanges -/
end Abs
end Go.Proofs.YtkopeigfjjbajaaGreat
