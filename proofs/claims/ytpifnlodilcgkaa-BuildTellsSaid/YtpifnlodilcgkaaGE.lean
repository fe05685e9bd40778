import Derived.Test.YtpifnlodilcgkaaGB
import Derived.Test.YtpifnlodilcgkaaM1
import Derived.Test.YtpifnlodilcgkaaZ1
set_option linter.unusedVariables false
namespace Go.Proofs.Ytpifnlodilcgkaa
namespace Abs
end Abs
end Go.Proofs.Ytpifnlodilcgkaa

set_option linter.unusedVariables false
namespace Go.Proofs.Ytpifnlodilcgkaa
namespace Abs
set_option linter.unusedSimpArgs false
set_option maxRecDepth 10000
set_option maxHeartbeats 2000000
attribute [local irreducible] AOps AW AP ACalls thenQ inBlk noGoto

theorem Wk.three {a a' b c : AVal} (h : Wk a a') : Wk (.tup [a, b, c]) (.tup [a', b, c]) := .tup rfl (fun j h1 h2 => match j with | 0 => h | 1 => .refl _ | 2 => .refl _)
end Abs
end Go.Proofs.Ytpifnlodilcgkaa
