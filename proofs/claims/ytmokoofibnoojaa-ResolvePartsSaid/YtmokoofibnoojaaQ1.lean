import Derived.Test.YtmokoofibnoojaaN1
import Derived.Test.YtmokoofibnoojaaA10
set_option linter.unusedVariables false
namespace Go.Proofs.Ytmokoofibnoojaa
namespace Abs
set_option maxRecDepth 10000

/-! ### the document's chapter 07: names -/
/-! ### Less -/
end Abs
end Go.Proofs.Ytmokoofibnoojaa
