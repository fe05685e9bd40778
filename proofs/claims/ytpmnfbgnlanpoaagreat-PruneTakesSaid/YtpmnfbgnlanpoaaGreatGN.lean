import Derived.Test.YtpmnfbgnlanpoaaGreatGL
import Derived.Test.YtpmnfbgnlanpoaaGreatGK
import Derived.Test.YtpmnfbgnlanpoaaGreatY1
set_option linter.unusedVariables false
namespace Go.Proofs.YtpmnfbgnlanpoaaGreat
namespace Abs
set_option linter.unusedSimpArgs false
set_option maxRecDepth 10000
set_option maxHeartbeats 2000000
attribute [local irreducible] AOps AW AP ACalls thenQ inBlk noGoto

/-! ### PruneMoves -/
theorem sameTo_self15 (T : Tab) : ∀ k : Nat, T.sameTo T k = true
  | 0 => rfl
  | k + 1 => by simp only [Tab.sameTo, sameTo_self15 T k, same_refl, Bool.and_self]
theorem same_tells15 {T : Tab} {L M : List Node} (h : Tells T L) (k : Tells T M) : rsameTo L M 24 = true := by
  rw [l_sameTo h.good.wf h.rel k.good.wf k.rel]; exact sameTo_self15 T 24
end Abs
end Go.Proofs.YtpmnfbgnlanpoaaGreat
