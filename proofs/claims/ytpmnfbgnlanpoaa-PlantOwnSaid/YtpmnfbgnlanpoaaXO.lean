import Derived.Test.YtpmnfbgnlanpoaaXN
set_option linter.unusedVariables false
namespace Go.Proofs.Ytpmnfbgnlanpoaa
namespace Abs
end Abs
end Go.Proofs.Ytpmnfbgnlanpoaa

set_option linter.unusedVariables false
namespace Go.Proofs.Ytpmnfbgnlanpoaa
namespace Abs
set_option linter.unusedSimpArgs false
set_option maxRecDepth 10000
set_option maxHeartbeats 2000000
attribute [local irreducible] AOps AW AP ACalls thenQ inBlk noGoto

/-! ### a node's mode is changed -/
end Abs
end Go.Proofs.Ytpmnfbgnlanpoaa
