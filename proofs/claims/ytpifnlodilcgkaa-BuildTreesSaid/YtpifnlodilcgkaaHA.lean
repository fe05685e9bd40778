import Derived.Test.YtpifnlodilcgkaaXN
import Derived.Test.YtpifnlodilcgkaaGA
set_option linter.unusedVariables false
namespace Go.Proofs.Ytpifnlodilcgkaa
namespace Abs

/-! ### copy, and a part of a row of the call's own -/
section
variable {P : Program} {tt : TT} {n : Nat} {ops : Array Oper} {rest : List Oper} {F : Fr} {H : AHeap} {dst : Option Tmp} {ty : TypeId} {pos : String} {af : Array Edge} {K : APost}
end
end Abs
end Go.Proofs.Ytpifnlodilcgkaa
