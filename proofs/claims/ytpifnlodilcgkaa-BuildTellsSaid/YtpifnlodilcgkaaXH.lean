import Derived.Test.YtpifnlodilcgkaaXD
import Derived.Test.YtpifnlodilcgkaaQ4
import Derived.Test.YtpifnlodilcgkaaQ10
set_option linter.unusedVariables false
namespace Go.Proofs.Ytpifnlodilcgkaa
namespace Abs
set_option linter.unusedSimpArgs false
set_option maxRecDepth 10000
set_option maxHeartbeats 2000000
attribute [local irreducible] AOps AW AP ACalls thenQ inBlk noGoto

/-! ### who asks, trees, what is built: as the laws have them -/
theorem nd_at (T : Tab) (k : Nat) : T.nd k = T.at ((k : Int) + 1) := rfl
end Abs
end Go.Proofs.Ytpifnlodilcgkaa
