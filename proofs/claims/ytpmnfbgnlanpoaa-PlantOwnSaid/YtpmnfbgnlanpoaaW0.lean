import Derived.Test.YtpmnfbgnlanpoaaXN
set_option linter.unusedVariables false
namespace Go.Proofs.Ytpmnfbgnlanpoaa
namespace Abs
set_option maxRecDepth 10000
attribute [local irreducible] AOps AW ACalls thenQ inBlk noGoto

/-! ### bits of modes: plain law -/
theorem andNot_bits {p q : Int} (hp : 0 ≤ p ∧ p < 4096) : ∃ N : Nat, bitsR .andNot .i64 p q = (N : Int) ∧ (N : Int) ≤ p ∧ ∀ i : Nat, i < 64 → N.testBit i = (p.toNat.testBit i && !(q % 18446744073709551616).toNat.testBit i) := by
  refine ⟨(BitVec.ofInt 64 p &&& ~~~BitVec.ofInt 64 q).toNat, ?_, ?_, fun i hi => ?_⟩
  · have h1 : (BitVec.ofInt 64 p &&& ~~~BitVec.ofInt 64 q).toNat ≤ (BitVec.ofInt 64 p).toNat := by
      rw [BitVec.toNat_and]; exact Nat.and_le_left
    have h2 := toNat_ofInt64 p
    show IntKind.i64.wrap ((BitVec.ofInt 64 p &&& ~~~BitVec.ofInt 64 q).toNat : Int) = _
    exact wrap_id ⟨by omega, by omega⟩
  · have h1 : (BitVec.ofInt 64 p &&& ~~~BitVec.ofInt 64 q).toNat ≤ (BitVec.ofInt 64 p).toNat := by
      rw [BitVec.toNat_and]; exact Nat.and_le_left
    have h2 := toNat_ofInt64 p
    omega
  · have h2 := toNat_ofInt64 p
    have h3 := toNat_ofInt64 q
    have e2 : (BitVec.ofInt 64 p).toNat = p.toNat := by omega
    have e3 : (BitVec.ofInt 64 q).toNat = (q % 18446744073709551616).toNat := by omega
    show (BitVec.ofInt 64 p &&& ~~~BitVec.ofInt 64 q).getLsbD i = _
    rw [BitVec.getLsbD_and, BitVec.getLsbD_not]
    rw [show (BitVec.ofInt 64 p).getLsbD i = (BitVec.ofInt 64 p).toNat.testBit i from rfl, show (BitVec.ofInt 64 q).getLsbD i = (BitVec.ofInt 64 q).toNat.testBit i from rfl, e2, e3]
    simp [hi]
end Abs
end Go.Proofs.Ytpmnfbgnlanpoaa
