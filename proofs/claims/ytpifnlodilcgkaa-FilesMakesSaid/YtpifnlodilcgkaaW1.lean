import Derived.Test.YtpifnlodilcgkaaGA
set_option linter.unusedVariables false
namespace Go.Proofs.Ytpifnlodilcgkaa
namespace Abs
set_option maxRecDepth 10000
attribute [local irreducible] AOps AW ACalls thenQ inBlk noGoto

/-! ### modes of what is made: plain law -/
end Abs
end Go.Proofs.Ytpifnlodilcgkaa
