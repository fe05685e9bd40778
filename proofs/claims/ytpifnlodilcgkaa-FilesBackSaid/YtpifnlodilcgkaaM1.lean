import Derived.Test.YtpifnlodilcgkaaV4
import Derived.Test.YtpifnlodilcgkaaM2
import Derived.Test.YtpifnlodilcgkaaS1
import Derived.Test.YtpifnlodilcgkaaL1
import Derived.Test.YtpifnlodilcgkaaQ4
import Derived.Test.YtpifnlodilcgkaaQ1
set_option linter.unusedVariables false
namespace Go.Proofs.Ytpifnlodilcgkaa
namespace Abs

/-! ### sorting by insertion is sorting: the plain law -/
end Abs
end Go.Proofs.Ytpifnlodilcgkaa

set_option linter.unusedVariables false
namespace Go.Proofs.Ytpifnlodilcgkaa
namespace Abs

/-! ### an entry more: the plain law -/
end Abs
end Go.Proofs.Ytpifnlodilcgkaa

set_option linter.unusedVariables false
namespace Go.Proofs.Ytpifnlodilcgkaa
namespace Abs
set_option linter.unusedSimpArgs false
set_option maxRecDepth 10000
set_option maxHeartbeats 2000000
attribute [local irreducible] AOps AW AP ACalls thenQ inBlk noGoto

/-! ### chapter 08: the document's example -/
end Abs
end Go.Proofs.Ytpifnlodilcgkaa

set_option linter.unusedVariables false
namespace Go.Proofs.Ytpifnlodilcgkaa
namespace Abs
set_option linter.unusedSimpArgs false
set_option maxRecDepth 10000
set_option maxHeartbeats 2000000
attribute [local irreducible] AOps AW AP ACalls thenQ inBlk noGoto

/-! ### NodeRight, NodeChanges -/
end Abs
end Go.Proofs.Ytpifnlodilcgkaa
