import Derived.Test.YtkopeigfjjbajaaGreatZB
set_option linter.unusedVariables false
namespace Go.Proofs.YtkopeigfjjbajaaGreat
namespace Abs
set_option maxRecDepth 10000

/-! ### who isn't root: the plain law -/
end Abs
end Go.Proofs.YtkopeigfjjbajaaGreat

set_option linter.unusedVariables false
namespace Go.Proofs.YtkopeigfjjbajaaGreat
namespace Abs
set_option linter.unusedSimpArgs false
set_option maxRecDepth 10000
set_option maxHeartbeats 2000000
attribute [local irreducible] AOps AW AP ACalls thenQ inBlk noGoto

/-! ### AttrTheirs -/
end Abs
end Go.Proofs.YtkopeigfjjbajaaGreat
