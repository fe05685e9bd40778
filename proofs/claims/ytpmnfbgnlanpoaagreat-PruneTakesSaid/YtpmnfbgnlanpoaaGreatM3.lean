import Derived.Test.YtpmnfbgnlanpoaaGreatM1
import Derived.Test.YtpmnfbgnlanpoaaGreatS1
import Derived.Test.YtpmnfbgnlanpoaaGreatL1
import Derived.Test.YtpmnfbgnlanpoaaGreatQ4
import Derived.Test.YtpmnfbgnlanpoaaGreatQ2
set_option linter.unusedVariables false
namespace Go.Proofs.YtpmnfbgnlanpoaaGreat
namespace Abs
set_option linter.unusedSimpArgs false
set_option maxRecDepth 10000
set_option maxHeartbeats 2000000
attribute [local irreducible] AOps AW AP ACalls thenQ inBlk noGoto

/-! ### chapter 08: the document's example -/
end Abs
end Go.Proofs.YtpmnfbgnlanpoaaGreat

set_option linter.unusedVariables false
namespace Go.Proofs.YtpmnfbgnlanpoaaGreat
namespace Abs
set_option linter.unusedSimpArgs false
set_option maxRecDepth 10000
set_option maxHeartbeats 2000000
attribute [local irreducible] AOps AW AP ACalls thenQ inBlk noGoto

/-! ### NodeRight, NodeChanges -/
end Abs
end Go.Proofs.YtpmnfbgnlanpoaaGreat
