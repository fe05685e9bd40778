import Derived.Test.YtpmnfbgnlanpoaaZ7
import Derived.Test.YtpmnfbgnlanpoaaXL
set_option linter.unusedVariables false
namespace Go.Proofs.Ytpmnfbgnlanpoaa
namespace Abs
set_option maxRecDepth 10000
attribute [local irreducible] AOps AW ACalls thenQ inBlk noGoto

/-! ### LookLinks: a link's target from where it stands, plain law -/
structure LinkLaw (T : Tab) (c : Cred) (d : ByteArray) (A B : Stat × Int) : Prop where
  err : ¬ A.2 = 0 → B.2 = A.2
  same : A.2 = 0 → ¬ A.1.kind = 3 → B = A
  tgt : A.2 = 0 → A.1.kind = 3 → (T.at A.1.node).kind = 3 ∧ A.1.size = (T.at A.1.node).target.size ∧ fitsOk (T.at A.1.node).target = true
  rel : A.2 = 0 → A.1.kind = 3 → absOf (T.at A.1.node).target = false → (T.look c (joinOf d (T.at A.1.node).target) true).2 = 36 ∨ B.2 = 40 ∨ T.look c (joinOf d (T.at A.1.node).target) true = B
  abs : A.2 = 0 → A.1.kind = 3 → absOf (T.at A.1.node).target = true → B.2 = 40 ∨ T.look c (T.at A.1.node).target true = B
end Abs
end Go.Proofs.Ytpmnfbgnlanpoaa
