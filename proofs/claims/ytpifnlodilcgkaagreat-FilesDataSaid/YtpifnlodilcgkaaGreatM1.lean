import Derived.Test.YtpifnlodilcgkaaGreatV4
import Derived.Test.YtpifnlodilcgkaaGreatM2
import Derived.Test.YtpifnlodilcgkaaGreatS1
import Derived.Test.YtpifnlodilcgkaaGreatL1
import Derived.Test.YtpifnlodilcgkaaGreatQ4
import Derived.Test.YtpifnlodilcgkaaGreatQ1
set_option linter.unusedVariables false
namespace Go.Proofs.YtpifnlodilcgkaaGreat
namespace Abs

/-! ### sorting by insertion is sorting: the plain law -/
end Abs
end Go.Proofs.YtpifnlodilcgkaaGreat

set_option linter.unusedVariables false
namespace Go.Proofs.YtpifnlodilcgkaaGreat
namespace Abs

/-! ### an entry more: the plain law -/
end Abs
end Go.Proofs.YtpifnlodilcgkaaGreat

set_option linter.unusedVariables false
namespace Go.Proofs.YtpifnlodilcgkaaGreat
namespace Abs
set_option linter.unusedSimpArgs false
set_option maxRecDepth 10000
set_option maxHeartbeats 2000000
attribute [local irreducible] AOps AW AP ACalls thenQ inBlk noGoto

/-! ### chapter 08: the document's example -/
end Abs
end Go.Proofs.YtpifnlodilcgkaaGreat

set_option linter.unusedVariables false
namespace Go.Proofs.YtpifnlodilcgkaaGreat
namespace Abs
set_option linter.unusedSimpArgs false
set_option maxRecDepth 10000
set_option maxHeartbeats 2000000
attribute [local irreducible] AOps AW AP ACalls thenQ inBlk noGoto

/-! ### NodeRight, NodeChanges -/
end Abs
end Go.Proofs.YtpifnlodilcgkaaGreat
