import Derived.Test.YtkopeigfjjbajaaGreatN1
import Derived.Test.YtkopeigfjjbajaaGreatA10
set_option linter.unusedVariables false
namespace Go.Proofs.YtkopeigfjjbajaaGreat
namespace Abs
set_option maxRecDepth 10000

/-! ### the document's chapter 07: names -/
/-! ### Less -/
end Abs
end Go.Proofs.YtkopeigfjjbajaaGreat
