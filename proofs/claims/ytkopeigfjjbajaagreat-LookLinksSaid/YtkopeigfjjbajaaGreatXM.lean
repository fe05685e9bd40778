import Derived.Test.YtkopeigfjjbajaaGreatXL
import Derived.Test.YtkopeigfjjbajaaGreatXD
import Derived.Test.YtkopeigfjjbajaaGreatZ3
import Derived.Test.YtkopeigfjjbajaaGreatM7
set_option linter.unusedVariables false
namespace Go.Proofs.YtkopeigfjjbajaaGreat
namespace Abs
set_option linter.unusedSimpArgs false
set_option maxRecDepth 10000
set_option maxHeartbeats 2000000
attribute [local irreducible] AOps AW AP ACalls thenQ inBlk noGoto

/-! ### the document's chapter 12 -/
end Abs
end Go.Proofs.YtkopeigfjjbajaaGreat
