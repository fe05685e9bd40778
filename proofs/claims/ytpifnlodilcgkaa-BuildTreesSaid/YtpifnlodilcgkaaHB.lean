import Derived.Test.YtpifnlodilcgkaaHA
set_option linter.unusedVariables false
namespace Go.Proofs.Ytpifnlodilcgkaa
namespace Abs
/-! ### files: plain part -/
def wrote (c : Cred) (n : Node) (d : ByteArray) : Node := { n with data := d, mode := c.written n.kind n.mode }
end Abs
end Go.Proofs.Ytpifnlodilcgkaa

set_option linter.unusedVariables false
namespace Go.Proofs.Ytpifnlodilcgkaa
namespace Abs
set_option linter.unusedSimpArgs false
set_option maxRecDepth 10000
set_option maxHeartbeats 2000000
attribute [local irreducible] AOps AW AP ACalls thenQ inBlk noGoto

/-! ### package files -/
end Abs
end Go.Proofs.Ytpifnlodilcgkaa
