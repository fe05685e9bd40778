import Derived.Test.YtpmnfbgnlanpoaaGreatZ5
set_option linter.unusedVariables false
set_option linter.unusedSimpArgs false
namespace Go.Proofs.YtpmnfbgnlanpoaaGreat
namespace Abs
set_option maxRecDepth 10000
attribute [local irreducible] AOps AW ACalls thenQ inBlk noGoto
attribute [local irreducible] absOf

/-! ### a path in two parts: the plain law -/
structure NameIs (s : ByteArray) : Prop where
  ne : s ≠ ⟨#[]⟩
  size : s.size ≤ 12
  dot : s ≠ dotS
  dots : s ≠ dotdotS
  slash : hasB s 47 = false
  nul : hasB s 0 = false
end Abs
end Go.Proofs.YtpmnfbgnlanpoaaGreat
