import Derived.Test.YtbldnaflffmddaaV1
import Derived.Test.YtbldnaflffmddaaQ1
import Derived.Test.YtbldnaflffmddaaL1
set_option linter.unusedVariables false
namespace Go.Proofs.Ytbldnaflffmddaa
namespace Abs

/-! ### names by their bytes, an entry more: the plain law -/
def tl (s : ByteArray) : List UInt8 := s.data.toList
theorem tl_inj {a b : ByteArray} (h : tl a = tl b) : a = b := by
  cases a; cases b
  simpa [tl] using h
theorem bless (a b : ByteArray) : Op.bytesLess a.toList b.toList = decide (tl a < tl b) := by
  rw [bytesLess_eq, ByteArray.toList_eq, ByteArray.toList_eq]; rfl
/-! ### entries that may be: the plain law -/
/-! ### an entry more, an entry less, of a directory that may be: the plain law -/
end Abs
end Go.Proofs.Ytbldnaflffmddaa
