import Derived.Test.YtpifnlodilcgkaaL1
import Derived.Test.YtpifnlodilcgkaaQ10
import Derived.Test.YtpifnlodilcgkaaS1
import Derived.Test.YtpifnlodilcgkaaA10
set_option linter.unusedVariables false
namespace Go.Proofs.Ytpifnlodilcgkaa
namespace Abs
set_option linter.unusedSimpArgs false
set_option maxRecDepth 10000
set_option maxHeartbeats 2000000
attribute [local irreducible] AOps AW AP ACalls thenQ inBlk noGoto

/-! ### play: acts on a table, which stays one of nodes that may be -/
end Abs
end Go.Proofs.Ytpifnlodilcgkaa
