import Derived.Test.YtbldnaflffmddaaA4
import Derived.Test.YtbldnaflffmddaaShelf
import Derived.Test.YtbldnaflffmddaaA10
import Derived.Lib.IndexAny
set_option linter.unusedVariables false
namespace Go.Proofs.Ytbldnaflffmddaa
namespace Abs
set_option maxRecDepth 10000

/-! ### What the library's functions come to -/
end Abs
end Go.Proofs.Ytbldnaflffmddaa

set_option linter.unusedVariables false
namespace Go.Proofs.Ytbldnaflffmddaa
namespace Abs
open Go.RowKit
set_option maxRecDepth 10000

/-! ### runes -/
theorem get_bang (s : ByteArray) (i : Nat) (h : i < s.size) : s.get! i = s.data.toList[i]'(by rw [Array.length_toList]; exact h) := by
  simp only [ByteArray.get!, Array.getElem_toList]
  rw [getElem!_pos s.data i h]
section
variable {P : Program} {tt : TT} {n : Nat} {ops : Array Oper} {rest : List Oper} {F : Fr} {H : AHeap} {dst : Option Tmp} {ty : TypeId} {pos : String} {af : Array Edge} {K : APost}
end
end Abs
end Go.Proofs.Ytbldnaflffmddaa

set_option linter.unusedVariables false
namespace Go.Proofs.Ytbldnaflffmddaa
namespace Abs
open Go.RowKit
set_option maxRecDepth 10000

end Abs
end Go.Proofs.Ytbldnaflffmddaa

set_option linter.unusedVariables false
namespace Go.Proofs.Ytbldnaflffmddaa
namespace Abs
open Go.Sort

/-! ### slices.Sort of a row of strings -/
def sortB (ss : List ByteArray) : List ByteArray := ((ss.map fun s => s.data.toList).mergeSort fun x y => decide (x ≤ y)).map fun l => ⟨l.toArray⟩
theorem sortB_len (ss : List ByteArray) : (sortB ss).length = ss.length := by simp [sortB, List.length_mergeSort]
end Abs
end Go.Proofs.Ytbldnaflffmddaa
