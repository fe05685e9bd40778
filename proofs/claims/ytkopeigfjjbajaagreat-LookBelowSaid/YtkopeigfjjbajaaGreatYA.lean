import Derived.Test.YtkopeigfjjbajaaGreatY9
import Derived.Test.YtkopeigfjjbajaaGreatY5
import Derived.Test.YtkopeigfjjbajaaGreatZ4
set_option linter.unusedVariables false
namespace Go.Proofs.YtkopeigfjjbajaaGreat
namespace Abs
set_option linter.unusedSimpArgs false
set_option maxRecDepth 10000
set_option maxHeartbeats 2000000
attribute [local irreducible] AOps AW AP ACalls thenQ inBlk noGoto

/-! ### LookSame -/
theorem wkTri {a b b' c : AVal} (h : Wk b b') : Wk (.tup [a, b, c]) (.tup [a, b', c]) := .tup rfl (fun j h1 h2 => match j with | 0 => .refl _ | 1 => h | 2 => .refl _)
theorem rootC_small : rootC.small := (by decide : (0 : Nat) ≤ 1073741824)
end Abs
end Go.Proofs.YtkopeigfjjbajaaGreat
