import Derived.Test.YtpifnlodilcgkaaXO
set_option linter.unusedVariables false
namespace Go.Proofs.Ytpifnlodilcgkaa
namespace Abs
set_option linter.unusedSimpArgs false
set_option maxRecDepth 10000
set_option maxHeartbeats 2000000
attribute [local irreducible] AOps AW AP ACalls thenQ inBlk noGoto

/-! ### a node's owner is changed -/
end Abs
end Go.Proofs.Ytpifnlodilcgkaa
