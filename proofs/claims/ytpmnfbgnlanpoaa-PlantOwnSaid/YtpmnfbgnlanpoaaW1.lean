import Derived.Test.YtpmnfbgnlanpoaaGA
set_option linter.unusedVariables false
namespace Go.Proofs.Ytpmnfbgnlanpoaa
namespace Abs
set_option maxRecDepth 10000
attribute [local irreducible] AOps AW ACalls thenQ inBlk noGoto

/-! ### modes of what is made: plain law -/
theorem and_nat {p q : Int} (hp : 0 ≤ p ∧ p ≤ 1000000) (hq : 0 ≤ q ∧ q ≤ 1000000) : bitsR .and .i64 p q = ((p.toNat &&& q.toNat : Nat) : Int) := by
  have h1 := toNat_ofInt64 p
  have h2 := toNat_ofInt64 q
  have e1 : (BitVec.ofInt 64 p).toNat = p.toNat := by omega
  have e2 : (BitVec.ofInt 64 q).toNat = q.toNat := by omega
  have h3 : p.toNat &&& q.toNat ≤ p.toNat := Nat.and_le_left
  show IntKind.i64.wrap ((BitVec.ofInt 64 p &&& BitVec.ofInt 64 q).toNat : Int) = _
  rw [BitVec.toNat_and, e1, e2]
  exact wrap_id ⟨by omega, by omega⟩
theorem or_nat {p q : Int} (hp : 0 ≤ p ∧ p < 2048) (hq : 0 ≤ q ∧ q < 2048) : bitsR .or .i64 p q = ((p.toNat ||| q.toNat : Nat) : Int) ∧ (p.toNat ||| q.toNat) < 2048 := by
  have h1 := toNat_ofInt64 p
  have h2 := toNat_ofInt64 q
  have e1 : (BitVec.ofInt 64 p).toNat = p.toNat := by omega
  have e2 : (BitVec.ofInt 64 q).toNat = q.toNat := by omega
  have h3 : p.toNat ||| q.toNat < 2 ^ 11 := Nat.or_lt_two_pow (by omega) (by omega)
  refine ⟨?_, h3⟩
  show IntKind.i64.wrap ((BitVec.ofInt 64 p ||| BitVec.ofInt 64 q).toNat : Int) = _
  rw [BitVec.toNat_or, e1, e2]
  exact wrap_id ⟨by omega, by omega⟩
/-- A mode without set user, and without some bits. -/
structure ModeOk (M umask : Int) : Prop where
  rng : 0 ≤ M ∧ M < 2048
  suid : bitsR .and .i64 M 2048 = 0
  mask : 0 ≤ umask ∧ umask ≤ 65535 → bitsR .and .i64 (bitsR .and .i64 M umask) 511 = 0
theorem modeOk_of {M umask : Int} (N : Nat) (hM : M = N) (hlt : N < 2048) (hb : 0 ≤ umask → ∀ i, i < 9 → N.testBit i = true → umask.toNat.testBit i = false) : ModeOk M umask := by
  have hrng : 0 ≤ M ∧ M < 2048 := by omega
  refine ⟨hrng, ?_, fun hu => ?_⟩
  · rw [and_nat ⟨by omega, by omega⟩ ⟨by decide, by decide⟩, hM]
    have : ((N : Int).toNat &&& (2048 : Int).toNat) = 0 := by
      refine Nat.eq_of_testBit_eq (fun i => ?_)
      rw [Nat.testBit_and, Nat.zero_testBit, show (2048 : Int).toNat = 2 ^ 11 from rfl, Nat.testBit_two_pow]
      by_cases hi : 11 = i
      · subst hi
        rw [show (N : Int).toNat = N from rfl, Nat.testBit_lt_two_pow (show N < 2 ^ 11 from hlt)]; rfl
      · rw [decide_eq_false hi, Bool.and_false]
    rw [this]; rfl
  · rw [and_nat (p := M) (q := umask) ⟨by omega, by omega⟩ ⟨by omega, by omega⟩, hM]
    have hle : ((N : Int).toNat &&& umask.toNat) ≤ N := Nat.and_le_left
    rw [and_nat ⟨by omega, by omega⟩ ⟨by decide, by decide⟩]
    have : ((((N : Int).toNat &&& umask.toNat : Nat) : Int).toNat &&& (511 : Int).toNat) = 0 := by
      refine Nat.eq_of_testBit_eq (fun i => ?_)
      rw [Nat.testBit_and, Nat.zero_testBit, show ((((N : Int).toNat &&& umask.toNat : Nat) : Int).toNat) = (N &&& umask.toNat) from rfl, Nat.testBit_and, show (511 : Int).toNat = 2 ^ 9 - 1 from rfl, Nat.testBit_two_pow_sub_one]
      by_cases hi : i < 9
      · cases hN : N.testBit i with
        | false => rfl
        | true => rw [hb hu.1 i hi hN]; rfl
      · rw [decide_eq_false hi, Bool.and_false]
    rw [this]; rfl
theorem fileMode_ok (mode umask : Int) : ModeOk (bitsR .andNot .i64 (mode % 512) umask) umask := by
  obtain ⟨N, e, hle, hb⟩ := andNot_bits (p := mode % 512) (q := umask) (by omega)
  refine modeOk_of N e (by omega) (fun hu i hi hN => ?_)
  rw [hb i (by omega)] at hN
  cases hz : umask.toNat.testBit i with
  | false => rfl
  | true =>
    exfalso
    have h2 : (umask % 18446744073709551616).toNat.testBit i = true := by
      rw [Nat.testBit_eq_decide_div_mod_eq] at hz ⊢
      have hz := of_decide_eq_true hz
      refine decide_eq_true ?_
      have hk : i = 0 ∨ i = 1 ∨ i = 2 ∨ i = 3 ∨ i = 4 ∨ i = 5 ∨ i = 6 ∨ i = 7 ∨ i = 8 := by omega
      rcases hk with rfl | rfl | rfl | rfl | rfl | rfl | rfl | rfl | rfl <;> simp only [Nat.reducePow] at hz ⊢ <;> omega
    rw [h2] at hN
    simp at hN
theorem orTo_two : orTo [511, 512] 2 = 1023 ∧ orTo [511] 1 = 511 ∧ orTo [1024] 1 = 1024 := ⟨by decide +kernel, by decide +kernel, by decide +kernel⟩
theorem and1024_two : ∀ a : Fin 64, ∀ b : Fin 64, bitsR .and .i64 ((64 * a.val + b.val : Nat) : Int) 1024 = 0 ∨ bitsR .and .i64 ((64 * a.val + b.val : Nat) : Int) 1024 = 1024 := by decide +kernel
theorem and1024_or {m : Int} (h : 0 ≤ m ∧ m ≤ 4095) : bitsR .and .i64 m 1024 = 0 ∨ bitsR .and .i64 m 1024 = 1024 := by
  have := and1024_two ⟨m.toNat / 64, by omega⟩ ⟨m.toNat % 64, by omega⟩
  simp only at this
  rw [show ((64 * (m.toNat / 64) + m.toNat % 64 : Nat) : Int) = m by omega] at this
  exact this
theorem dirMode_ok (mode umask : Int) (d : Node) (hd : 0 ≤ d.mode ∧ d.mode ≤ 4095) : ModeOk (dirN mode umask d).mode umask := by
  show ModeOk (bitsR .or .i64 (bitsR .andNot .i64 (bitsR .and .i64 mode (orTo [511, 512] 2)) (bitsR .and .i64 umask (orTo [511] 1))) (bitsR .and .i64 d.mode (orTo [1024] 1))) umask
  rw [orTo_two.1, orTo_two.2.1, orTo_two.2.2, and1023, and511]
  obtain ⟨N, e, hle, hb⟩ := andNot_bits (p := mode % 1024) (q := umask % 512) (by omega)
  rw [e]
  have h4 : 0 ≤ bitsR .and .i64 d.mode 1024 ∧ bitsR .and .i64 d.mode 1024 < 2048 := by rcases and1024_or hd with h | h <;> rw [h] <;> decide
  obtain ⟨o1, o2⟩ := or_nat (p := (N : Int)) (q := bitsR .and .i64 d.mode 1024) ⟨by omega, by omega⟩ h4
  refine modeOk_of _ o1 o2 (fun hu i hi hN => ?_)
  have hN2 : N.testBit i = true := by
    rw [Nat.testBit_or, show ((N : Int).toNat) = N from rfl] at hN
    rcases and1024_or hd with h | h
    · rw [h] at hN
      simpa using hN
    · rw [h, show ((1024 : Int).toNat) = 2 ^ 10 from rfl, Nat.testBit_two_pow, decide_eq_false (show ¬ 10 = i by omega)] at hN
      simpa using hN
  rw [hb i (by omega)] at hN2
  cases hz : umask.toNat.testBit i with
  | false => rfl
  | true =>
    exfalso
    have h2 : (umask % 512 % 18446744073709551616).toNat.testBit i = true := by
      rw [Nat.testBit_eq_decide_div_mod_eq] at hz ⊢
      have hz := of_decide_eq_true hz
      refine decide_eq_true ?_
      have hk : i = 0 ∨ i = 1 ∨ i = 2 ∨ i = 3 ∨ i = 4 ∨ i = 5 ∨ i = 6 ∨ i = 7 ∨ i = 8 := by omega
      rcases hk with rfl | rfl | rfl | rfl | rfl | rfl | rfl | rfl | rfl <;> simp only [Nat.reducePow] at hz ⊢ <;> omega
    rw [h2] at hN2
    simp at hN2
end Abs
end Go.Proofs.Ytpmnfbgnlanpoaa
