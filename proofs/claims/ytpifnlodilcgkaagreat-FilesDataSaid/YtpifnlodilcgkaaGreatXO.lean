import Derived.Test.YtpifnlodilcgkaaGreatXN
set_option linter.unusedVariables false
namespace Go.Proofs.YtpifnlodilcgkaaGreat
namespace Abs
theorem dropB_all : ∀ a : Fin 64, ∀ b : Fin 64, (0 ≤ dropB ((64 * a.val + b.val : Nat) : Int) 1024 ∧ dropB ((64 * a.val + b.val : Nat) : Int) 1024 ≤ ((64 * a.val + b.val : Nat) : Int)) ∧ (0 ≤ dropB ((64 * a.val + b.val : Nat) : Int) 2048 ∧ dropB ((64 * a.val + b.val : Nat) : Int) 2048 ≤ ((64 * a.val + b.val : Nat) : Int)) := by decide +kernel
theorem dropB_rng {m : Int} (h : 0 ≤ m ∧ m ≤ 4095) : (0 ≤ dropB m 1024 ∧ dropB m 1024 ≤ m) ∧ (0 ≤ dropB m 2048 ∧ dropB m 2048 ≤ m) := by
  have := dropB_all ⟨m.toNat / 64, by omega⟩ ⟨m.toNat % 64, by omega⟩
  simp only at this
  rw [show ((64 * (m.toNat / 64) + m.toNat % 64 : Nat) : Int) = m by omega] at this
  exact this
end Abs
end Go.Proofs.YtpifnlodilcgkaaGreat

set_option linter.unusedVariables false
namespace Go.Proofs.YtpifnlodilcgkaaGreat
namespace Abs
set_option linter.unusedSimpArgs false
set_option maxRecDepth 10000
set_option maxHeartbeats 2000000
attribute [local irreducible] AOps AW AP ACalls thenQ inBlk noGoto

/-! ### a node's mode is changed -/
end Abs
end Go.Proofs.YtpifnlodilcgkaaGreat
