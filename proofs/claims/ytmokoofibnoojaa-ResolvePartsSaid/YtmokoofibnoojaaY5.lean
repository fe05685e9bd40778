import Derived.Test.YtmokoofibnoojaaY2
import Derived.Test.YtmokoofibnoojaaZ2
import Derived.Test.YtmokoofibnoojaaZ5
set_option linter.unusedVariables false
namespace Go.Proofs.Ytmokoofibnoojaa
namespace Abs
set_option linter.unusedSimpArgs false
set_option maxRecDepth 10000
set_option maxHeartbeats 2000000
attribute [local irreducible] AOps AW AP ACalls thenQ inBlk noGoto

/-! ### ResolveDots -/
theorem foundEq (f : Found) : (decide (f.dir = f.dir) && (decide (f.name = f.name) && (decide (f.node = f.node) && true))) = true := by simp
end Abs
end Go.Proofs.Ytmokoofibnoojaa
