import Derived.Test.YtpifnlodilcgkaaXP
import Derived.Test.YtpifnlodilcgkaaXM
set_option linter.unusedVariables false
namespace Go.Proofs.Ytpifnlodilcgkaa
namespace Abs
end Abs
end Go.Proofs.Ytpifnlodilcgkaa

set_option linter.unusedVariables false
namespace Go.Proofs.Ytpifnlodilcgkaa
namespace Abs
set_option linter.unusedSimpArgs false
set_option maxRecDepth 10000
set_option maxHeartbeats 2000000
attribute [local irreducible] AOps AW AP ACalls thenQ inBlk noGoto

/-! ### the document's bits, and who may change what -/
/-! ### no table -/
/-! ### the document's changes -/
end Abs
end Go.Proofs.Ytpifnlodilcgkaa
