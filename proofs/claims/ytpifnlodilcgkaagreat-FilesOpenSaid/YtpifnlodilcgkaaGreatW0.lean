import Derived.Test.YtpifnlodilcgkaaGreatXN
set_option linter.unusedVariables false
namespace Go.Proofs.YtpifnlodilcgkaaGreat
namespace Abs
set_option maxRecDepth 10000
attribute [local irreducible] AOps AW ACalls thenQ inBlk noGoto

/-! ### bits of modes: plain law -/
theorem andNot_bits {p q : Int} (hp : 0 ≤ p ∧ p < 4096) : ∃ N : Nat, bitsR .andNot .i64 p q = (N : Int) ∧ (N : Int) ≤ p ∧ ∀ i : Nat, i < 64 → N.testBit i = (p.toNat.testBit i && !(q % 18446744073709551616).toNat.testBit i) := by
  refine ⟨(BitVec.ofInt 64 p &&& ~~~BitVec.ofInt 64 q).toNat, ?_, ?_, fun i hi => ?_⟩
  · have h1 : (BitVec.ofInt 64 p &&& ~~~BitVec.ofInt 64 q).toNat ≤ (BitVec.ofInt 64 p).toNat := by
      rw [BitVec.toNat_and]; exact Nat.and_le_left
    have h2 := toNat_ofInt64 p
    show IntKind.i64.wrap ((BitVec.ofInt 64 p &&& ~~~BitVec.ofInt 64 q).toNat : Int) = _
    exact wrap_id ⟨by omega, by omega⟩
  · have h1 : (BitVec.ofInt 64 p &&& ~~~BitVec.ofInt 64 q).toNat ≤ (BitVec.ofInt 64 p).toNat := by
      rw [BitVec.toNat_and]; exact Nat.and_le_left
    have h2 := toNat_ofInt64 p
    omega
  · have h2 := toNat_ofInt64 p
    have h3 := toNat_ofInt64 q
    have e2 : (BitVec.ofInt 64 p).toNat = p.toNat := by omega
    have e3 : (BitVec.ofInt 64 q).toNat = (q % 18446744073709551616).toNat := by omega
    show (BitVec.ofInt 64 p &&& ~~~BitVec.ofInt 64 q).getLsbD i = _
    rw [BitVec.getLsbD_and, BitVec.getLsbD_not]
    rw [show (BitVec.ofInt 64 p).getLsbD i = (BitVec.ofInt 64 p).toNat.testBit i from rfl, show (BitVec.ofInt 64 q).getLsbD i = (BitVec.ofInt 64 q).toNat.testBit i from rfl, e2, e3]
    simp [hi]
/-- A mode's bits below one without those that a umask has. -/
def maskTo (m u : Int) : Nat → Int
  | 0 => 0
  | k + 1 => maskTo m u k + if m / 2 ^ k % 2 = 1 ∧ ¬ u / 2 ^ k % 2 = 1 then 2 ^ k else 0
theorem maskTo_rng (m u : Int) : ∀ k : Nat, 0 ≤ maskTo m u k ∧ maskTo m u k < 2 ^ k
  | 0 => ⟨Int.le_refl _, show (0 : Int) < 2 ^ 0 by decide⟩
  | k + 1 => by
    have ih := maskTo_rng m u k
    have h2 : (2 : Int) ^ (k + 1) = 2 ^ k + 2 ^ k := by rw [Int.pow_succ]; omega
    simp only [maskTo]
    split <;> omega
theorem nat_sum9 {N : Nat} (h : N < 512) : (N : Int) = (if N / 1 % 2 = 1 then 1 else 0) + (if N / 2 % 2 = 1 then 2 else 0) + (if N / 4 % 2 = 1 then 4 else 0) + (if N / 8 % 2 = 1 then 8 else 0) + (if N / 16 % 2 = 1 then 16 else 0) + (if N / 32 % 2 = 1 then 32 else 0) + (if N / 64 % 2 = 1 then 64 else 0) + (if N / 128 % 2 = 1 then 128 else 0) + (if N / 256 % 2 = 1 then 256 else 0) := by
  have f : ∀ a : Nat, ((if a % 2 = 1 then (1 : Int) else 0)) = ((a % 2 : Nat) : Int) := fun a => by split <;> omega
  have g : ∀ (a : Nat) (z : Int), (if a % 2 = 1 then z else 0) = z * (if a % 2 = 1 then (1 : Int) else 0) := fun a z => by split <;> simp
  rw [g (N / 2), g (N / 4), g (N / 8), g (N / 16), g (N / 32), g (N / 64), g (N / 128), g (N / 256)]
  simp only [f]
  omega
theorem bit_cong {N : Nat} {p q m u : Int} {i : Nat} {d : Nat} (hd : d = 2 ^ i) (hN : N.testBit i = (p.toNat.testBit i && !(q % 18446744073709551616).toNat.testBit i)) (hp : p.toNat / d % 2 = 1 ↔ m / (2 : Int) ^ i % 2 = 1) (hq : (q % 18446744073709551616).toNat / d % 2 = 1 ↔ u / (2 : Int) ^ i % 2 = 1) (z : Int) :
    (if N / d % 2 = 1 then z else 0) = if m / (2 : Int) ^ i % 2 = 1 ∧ ¬ u / (2 : Int) ^ i % 2 = 1 then z else 0 := by
  have h : (N / d % 2 = 1) ↔ (m / (2 : Int) ^ i % 2 = 1 ∧ ¬ u / (2 : Int) ^ i % 2 = 1) := by
    rw [← hp, ← hq, hd]
    rw [Nat.testBit_eq_decide_div_mod_eq, Nat.testBit_eq_decide_div_mod_eq, Nat.testBit_eq_decide_div_mod_eq] at hN
    have := congrArg (· = true) hN
    simpa using this
  by_cases k : N / d % 2 = 1
  · rw [if_pos k, if_pos (h.1 k)]
  · rw [if_neg k, if_neg (fun q => k (h.2 q))]
theorem masked_eq (mode umask : Int) : bitsR .andNot .i64 (mode % 512) umask = maskTo (mode % 4096) (umask % 4096) 9 := by
  obtain ⟨N, e, hle, hb⟩ := andNot_bits (p := mode % 512) (q := umask) (by omega)
  rw [e, nat_sum9 (show N < 512 by omega)]
  simp only [maskTo]
  rw [bit_cong (i := 0) (m := mode % 4096) (u := umask % 4096) rfl (hb 0 (by decide)) (by omega) (by omega), bit_cong (i := 1) (m := mode % 4096) (u := umask % 4096) rfl (hb 1 (by decide)) (by omega) (by omega),
    bit_cong (i := 2) (m := mode % 4096) (u := umask % 4096) rfl (hb 2 (by decide)) (by omega) (by omega), bit_cong (i := 3) (m := mode % 4096) (u := umask % 4096) rfl (hb 3 (by decide)) (by omega) (by omega),
    bit_cong (i := 4) (m := mode % 4096) (u := umask % 4096) rfl (hb 4 (by decide)) (by omega) (by omega), bit_cong (i := 5) (m := mode % 4096) (u := umask % 4096) rfl (hb 5 (by decide)) (by omega) (by omega),
    bit_cong (i := 6) (m := mode % 4096) (u := umask % 4096) rfl (hb 6 (by decide)) (by omega) (by omega), bit_cong (i := 7) (m := mode % 4096) (u := umask % 4096) rfl (hb 7 (by decide)) (by omega) (by omega),
    bit_cong (i := 8) (m := mode % 4096) (u := umask % 4096) rfl (hb 8 (by decide)) (by omega) (by omega)]
  simp
end Abs
end Go.Proofs.YtpifnlodilcgkaaGreat
