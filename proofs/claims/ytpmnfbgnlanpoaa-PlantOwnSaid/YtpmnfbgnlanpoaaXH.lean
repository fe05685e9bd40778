import Derived.Test.YtpmnfbgnlanpoaaXD
import Derived.Test.YtpmnfbgnlanpoaaQ4
import Derived.Test.YtpmnfbgnlanpoaaQ10
set_option linter.unusedVariables false
namespace Go.Proofs.Ytpmnfbgnlanpoaa
namespace Abs
set_option linter.unusedSimpArgs false
set_option maxRecDepth 10000
set_option maxHeartbeats 2000000
attribute [local irreducible] AOps AW AP ACalls thenQ inBlk noGoto

/-! ### who asks, trees, what is built: as the laws have them -/
end Abs
end Go.Proofs.Ytpmnfbgnlanpoaa
