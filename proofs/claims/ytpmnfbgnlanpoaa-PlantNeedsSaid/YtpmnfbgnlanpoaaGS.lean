import Derived.Test.YtpmnfbgnlanpoaaGI
import Derived.Test.YtpmnfbgnlanpoaaZ1
import Derived.Test.YtpmnfbgnlanpoaaZ3
set_option linter.unusedVariables false
namespace Go.Proofs.Ytpmnfbgnlanpoaa
namespace Abs
set_option maxRecDepth 10000
attribute [local irreducible] AOps AW ACalls thenQ inBlk noGoto

/-! ### a path in a tree with an entry more, and one less: plain law -/
structure KeepW (T U : Tab) (c : Cred) (x : Int) (nm : ByteArray) (a y : Int) (my : ByteArray) : Prop where
  kind : ∀ i, T.has i = true → (U.at i).kind = (T.at i).kind
  tgt : ∀ i, T.has i = true → (U.at i).target = (T.at i).target
  can : ∀ i, T.has i = true → U.can c i 1 = T.can c i 1
  find : ∀ i n, (T.at i).kind = 2 → (U.at i).find n = if i = x ∧ n = nm then a else if i = y ∧ n = my then 0 else (T.at i).find n
  par : ∀ i, (T.at i).kind = 2 → i ≠ a → U.parent i = T.parent i
  xn : (T.at x).find nm = 0
  uni : (T.at a).kind = 2 → ∀ i n, (T.at i).kind = 2 → (T.at i).find n = a → i = y ∧ n = my
  a0 : a ≠ 0
end Abs
end Go.Proofs.Ytpmnfbgnlanpoaa
