import Derived.Test.YtpifnlodilcgkaaZ3
set_option linter.unusedVariables false
set_option linter.unusedSimpArgs false
namespace Go.Proofs.Ytpifnlodilcgkaa
namespace Abs
set_option maxRecDepth 10000
attribute [local irreducible] AOps AW ACalls thenQ inBlk noGoto
attribute [local irreducible] absOf

/-! ### a name below a path that leads to a directory: the plain law -/
end Abs
end Go.Proofs.Ytpifnlodilcgkaa
