import Derived.Test.YtpmnfbgnlanpoaaV4
import Derived.Test.YtpmnfbgnlanpoaaM2
import Derived.Test.YtpmnfbgnlanpoaaS1
import Derived.Test.YtpmnfbgnlanpoaaL1
import Derived.Test.YtpmnfbgnlanpoaaQ4
import Derived.Test.YtpmnfbgnlanpoaaQ1
set_option linter.unusedVariables false
namespace Go.Proofs.Ytpmnfbgnlanpoaa
namespace Abs

/-! ### sorting by insertion is sorting: the plain law -/
end Abs
end Go.Proofs.Ytpmnfbgnlanpoaa

set_option linter.unusedVariables false
namespace Go.Proofs.Ytpmnfbgnlanpoaa
namespace Abs

/-! ### an entry more: the plain law -/
end Abs
end Go.Proofs.Ytpmnfbgnlanpoaa

set_option linter.unusedVariables false
namespace Go.Proofs.Ytpmnfbgnlanpoaa
namespace Abs
set_option linter.unusedSimpArgs false
set_option maxRecDepth 10000
set_option maxHeartbeats 2000000
attribute [local irreducible] AOps AW AP ACalls thenQ inBlk noGoto

/-! ### chapter 08: the document's example -/
end Abs
end Go.Proofs.Ytpmnfbgnlanpoaa

set_option linter.unusedVariables false
namespace Go.Proofs.Ytpmnfbgnlanpoaa
namespace Abs
set_option linter.unusedSimpArgs false
set_option maxRecDepth 10000
set_option maxHeartbeats 2000000
attribute [local irreducible] AOps AW AP ACalls thenQ inBlk noGoto

/-! ### NodeRight, NodeChanges -/
end Abs
end Go.Proofs.Ytpmnfbgnlanpoaa
