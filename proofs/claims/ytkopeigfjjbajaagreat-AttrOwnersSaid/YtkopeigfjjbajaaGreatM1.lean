import Derived.Test.YtkopeigfjjbajaaGreatV4
import Derived.Test.YtkopeigfjjbajaaGreatM2
set_option linter.unusedVariables false
namespace Go.Proofs.YtkopeigfjjbajaaGreat
namespace Abs

/-! ### sorting by insertion is sorting: the plain law -/
end Abs
end Go.Proofs.YtkopeigfjjbajaaGreat

set_option linter.unusedVariables false
namespace Go.Proofs.YtkopeigfjjbajaaGreat
namespace Abs

/-! ### an entry more: the plain law -/
end Abs
end Go.Proofs.YtkopeigfjjbajaaGreat
