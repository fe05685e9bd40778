import Derived.Test.YtpifnlodilcgkaaXL
import Derived.Test.YtpifnlodilcgkaaZ3
set_option linter.unusedVariables false
namespace Go.Proofs.Ytpifnlodilcgkaa
namespace Abs
set_option linter.unusedSimpArgs false
set_option maxRecDepth 10000
set_option maxHeartbeats 2000000
attribute [local irreducible] AOps AW AP ACalls thenQ inBlk noGoto

/-! ### who may change what -/
def dropB (m b : Int) : Int := bitsR .andNot .i64 m b
def Cred.written (c : Cred) (kind mode : Int) : Int := if (c.root || !decide (kind = 1)) = true then mode % 4096
  else if clsBits (dropB (mode % 4096) 2048) 1 % 2 = 0 then dropB (mode % 4096) 2048 else dropB (dropB (mode % 4096) 2048) 1024
end Abs
end Go.Proofs.Ytpifnlodilcgkaa
