import Derived.Test.YtpifnlodilcgkaaGE
import Derived.Test.YtpifnlodilcgkaaIJ
set_option linter.unusedVariables false
namespace Go.Proofs.Ytpifnlodilcgkaa
namespace Abs
set_option linter.unusedSimpArgs false
set_option maxRecDepth 10000
set_option maxHeartbeats 2000000
attribute [local irreducible] AOps AW AP ACalls thenQ inBlk noGoto

/-! ### the document's chapter 10: one -/
end Abs
end Go.Proofs.Ytpifnlodilcgkaa
