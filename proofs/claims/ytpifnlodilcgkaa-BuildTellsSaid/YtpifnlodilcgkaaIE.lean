import Derived.Test.YtpifnlodilcgkaaZ1
import Derived.Test.YtpifnlodilcgkaaY1
set_option linter.unusedVariables false
namespace Go.Proofs.Ytpifnlodilcgkaa
namespace Abs
set_option maxRecDepth 10000
attribute [local irreducible] AOps AW ACalls thenQ inBlk noGoto

/-! ### BuildRight: the plain law -/
end Abs
end Go.Proofs.Ytpifnlodilcgkaa
