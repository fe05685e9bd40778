import Derived.Test.YtbldnaflffmddaaJL
set_option linter.unusedVariables false
namespace Go.Proofs.Ytbldnaflffmddaa
namespace Abs
set_option maxRecDepth 10000

/-! ### WalkDown: plain law -/
def sepL (d : ByteArray) : List UInt8 := if (decide (d = ⟨#[]⟩) || endOf d) = true then [] else [47]
theorem tl_join (d s : ByteArray) : tl (joinOf d s) = tl d ++ (sepL d ++ tl s) := by
  unfold joinOf sepL tl
  split
  · simp
  · simp [slashS]
theorem join_size2 (d s : ByteArray) : (joinOf d s).size ≤ d.size + 1 + s.size := by
  have h := congrArg List.length (tl_join d s)
  have e : ∀ b : ByteArray, (tl b).length = b.size := fun b => by show b.data.toList.length = _; rw [Array.length_toList]; rfl
  have hs : (sepL d).length ≤ 1 := by unfold sepL; split <;> simp
  rw [List.length_append, List.length_append, e, e, e] at h
  omega
end Abs
end Go.Proofs.Ytbldnaflffmddaa

set_option linter.unusedVariables false
namespace Go.Proofs.Ytbldnaflffmddaa
namespace Abs
set_option linter.unusedSimpArgs false
set_option maxRecDepth 10000
set_option maxHeartbeats 2000000
attribute [local irreducible] AOps AW AP ACalls thenQ inBlk noGoto

/-! ### WalkDown -/
end Abs
end Go.Proofs.Ytbldnaflffmddaa
