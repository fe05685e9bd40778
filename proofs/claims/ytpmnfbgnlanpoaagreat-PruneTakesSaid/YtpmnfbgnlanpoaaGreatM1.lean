import Derived.Test.YtpmnfbgnlanpoaaGreatV4
import Derived.Test.YtpmnfbgnlanpoaaGreatM2
set_option linter.unusedVariables false
namespace Go.Proofs.YtpmnfbgnlanpoaaGreat
namespace Abs

/-! ### sorting by insertion is sorting: the plain law -/
end Abs
end Go.Proofs.YtpmnfbgnlanpoaaGreat

set_option linter.unusedVariables false
namespace Go.Proofs.YtpmnfbgnlanpoaaGreat
namespace Abs

/-! ### an entry more: the plain law -/
end Abs
end Go.Proofs.YtpmnfbgnlanpoaaGreat
