import Derived.Test.YtkopeigfjjbajaaN1
import Derived.Test.YtkopeigfjjbajaaA10
set_option linter.unusedVariables false
namespace Go.Proofs.Ytkopeigfjjbajaa
namespace Abs
set_option maxRecDepth 10000

/-! ### the document's chapter 07: names -/
/-! ### Less -/
end Abs
end Go.Proofs.Ytkopeigfjjbajaa
