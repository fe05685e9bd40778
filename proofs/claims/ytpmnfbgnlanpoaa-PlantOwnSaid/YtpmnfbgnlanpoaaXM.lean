import Derived.Test.YtpmnfbgnlanpoaaXL
import Derived.Test.YtpmnfbgnlanpoaaXD
import Derived.Test.YtpmnfbgnlanpoaaZ3
import Derived.Test.YtpmnfbgnlanpoaaM7
set_option linter.unusedVariables false
namespace Go.Proofs.Ytpmnfbgnlanpoaa
namespace Abs
set_option linter.unusedSimpArgs false
set_option maxRecDepth 10000
set_option maxHeartbeats 2000000
attribute [local irreducible] AOps AW AP ACalls thenQ inBlk noGoto

/-! ### the document's chapter 12 -/
end Abs
end Go.Proofs.Ytpmnfbgnlanpoaa
