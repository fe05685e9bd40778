import Derived.Test.YtpifnlodilcgkaaY1
set_option linter.unusedVariables false
namespace Go.Proofs.Ytpifnlodilcgkaa
namespace Abs
set_option linter.unusedSimpArgs false
set_option maxRecDepth 10000
set_option maxHeartbeats 2000000
attribute [local irreducible] AOps AW AP ACalls thenQ inBlk noGoto

/-! ### chapter 11: the document's example -/
theorem del_put_none {H : AHeap} {b : Nat} {o : HObj} (h : H b = none) : (H.put b o).del b = H := by
  funext x
  simp only [AHeap.put, AHeap.del]
  split
  · rename_i e; rw [e, h]
  · rfl
theorem exC1_small : exC1.small := (by decide : (0 : Nat) ≤ 1073741824)
end Abs
end Go.Proofs.Ytpifnlodilcgkaa
