import Derived.Test.YtpifnlodilcgkaaA10
import Derived.Test.YtpifnlodilcgkaaP0
set_option linter.unusedVariables false
namespace Go.Proofs.Ytpifnlodilcgkaa
namespace Abs

/-! ### string(b) where the order is drawn -/
section
variable {P : Program} {tt : TT} {n : Nat} {ops : Array Oper} {F : Fr} {H : AHeap} {dst : Option Tmp} {ty : TypeId} {pos : String} {af : Array Edge} {gd : Option (Nat × Bool)} {K : APost}
end
section
variable {n : Nat} {ops : Array Oper} {F : Fr} {H : AHeap} {K : APost} {i : Nat} {p : Plan} {dst : Option Tmp} {ty : TypeId} {pos : String} {af : Array Edge} {gd : Option (Nat × Bool)}
end
end Abs
end Go.Proofs.Ytpifnlodilcgkaa
