import Derived.Test.YtbldnaflffmddaaJK
import Derived.Test.YtbldnaflffmddaaJI
set_option linter.unusedVariables false
namespace Go.Proofs.Ytbldnaflffmddaa
namespace Abs
set_option linter.unusedSimpArgs false
set_option maxRecDepth 10000
set_option maxHeartbeats 2000000
attribute [local irreducible] AOps AW AP ACalls thenQ inBlk noGoto

/-! ### WalkReports -/
end Abs
end Go.Proofs.Ytbldnaflffmddaa
