import Derived.Test.YtpifnlodilcgkaaXN
set_option linter.unusedVariables false
namespace Go.Proofs.Ytpifnlodilcgkaa
namespace Abs
set_option maxRecDepth 10000
attribute [local irreducible] AOps AW ACalls thenQ inBlk noGoto

/-! ### bits of modes: plain law -/
end Abs
end Go.Proofs.Ytpifnlodilcgkaa
