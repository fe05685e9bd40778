import Derived.Test.YtpifnlodilcgkaaHG
import Derived.Test.YtpifnlodilcgkaaHC
import Derived.Test.YtpifnlodilcgkaaGE
import Derived.Test.YtpifnlodilcgkaaXQ
set_option linter.unusedVariables false
namespace Go.Proofs.Ytpifnlodilcgkaa
namespace Abs
/-! ### ref16: plain part -/
structure BitsF (flags : Int) : Prop where
  b0 : hasF flags 1 = decide (flags / 2 ^ 0 % 2 = 1)
  b1 : hasF flags 2 = decide (flags / 2 ^ 1 % 2 = 1)
  b2 : hasF flags 4 = decide (flags / 2 ^ 2 % 2 = 1)
  b3 : hasF flags 8 = decide (flags / 2 ^ 3 % 2 = 1)
  b4 : hasF flags 16 = decide (flags / 2 ^ 4 % 2 = 1)
  b5 : hasF flags 32 = decide (flags / 2 ^ 5 % 2 = 1)
  m40 : hasF flags 40 = (hasF flags 32 || hasF flags 8)
  ok : flagsOk flags = ((hasF flags 1 || hasF flags 2) && ((!hasF flags 16 || hasF flags 2) && (!hasF flags 8 || hasF flags 4)))
end Abs
end Go.Proofs.Ytpifnlodilcgkaa

set_option linter.unusedVariables false
namespace Go.Proofs.Ytpifnlodilcgkaa
namespace Abs
set_option linter.unusedSimpArgs false
set_option maxRecDepth 10000
set_option maxHeartbeats 2000000
attribute [local irreducible] AOps AW AP ACalls thenQ inBlk noGoto

/-! ### package gaolerref16 -/
end Abs
end Go.Proofs.Ytpifnlodilcgkaa
