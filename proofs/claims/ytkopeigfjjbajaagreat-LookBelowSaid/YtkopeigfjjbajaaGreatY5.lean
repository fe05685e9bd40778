import Derived.Test.YtkopeigfjjbajaaGreatY2
import Derived.Test.YtkopeigfjjbajaaGreatZ2
import Derived.Test.YtkopeigfjjbajaaGreatZ5
set_option linter.unusedVariables false
namespace Go.Proofs.YtkopeigfjjbajaaGreat
namespace Abs
set_option linter.unusedSimpArgs false
set_option maxRecDepth 10000
set_option maxHeartbeats 2000000
attribute [local irreducible] AOps AW AP ACalls thenQ inBlk noGoto

/-! ### ResolveDots -/
end Abs
end Go.Proofs.YtkopeigfjjbajaaGreat
