import Derived.Test.YtpifnlodilcgkaaHE
import Derived.Test.YtpifnlodilcgkaaGI
set_option linter.unusedVariables false
namespace Go.Proofs.Ytpifnlodilcgkaa
namespace Abs
set_option maxRecDepth 10000
/-! ### FilesClean: plain law -/
theorem sameTo_selfG (T : Tab) : ∀ k : Nat, T.sameTo T k = true
  | 0 => rfl
  | k + 1 => by simp only [Tab.sameTo, sameTo_selfG T k, same_refl, Bool.and_self]
theorem same_selfG (T : Tab) : T.same T = true := sameTo_selfG T 24
def w0 (m : Int) : Int := if clsBits (dropB (m % 4096) 2048) 1 % 2 = 0 then dropB (m % 4096) 2048 else dropB (dropB (m % 4096) 2048) 1024
theorem w0_all : ∀ a : Fin 64, ∀ b : Fin 64, (0 ≤ w0 ((64 * a.val + b.val : Nat) : Int) ∧ w0 ((64 * a.val + b.val : Nat) : Int) ≤ 4095) ∧ bitsR .and .i64 (w0 ((64 * a.val + b.val : Nat) : Int)) 2048 = 0 ∧
    (bitsR .and .i64 (w0 ((64 * a.val + b.val : Nat) : Int)) 1024 = 0 ∨ bitsR .and .i64 (w0 ((64 * a.val + b.val : Nat) : Int)) 8 = 0) ∧ bitsR .andNot .i64 (w0 ((64 * a.val + b.val : Nat) : Int)) 3072 = bitsR .andNot .i64 ((64 * a.val + b.val : Nat) : Int) 3072 := by decide +kernel
theorem w0_ok {m : Int} (h : 0 ≤ m ∧ m ≤ 4095) : (0 ≤ w0 m ∧ w0 m ≤ 4095) ∧ bitsR .and .i64 (w0 m) 2048 = 0 ∧ (bitsR .and .i64 (w0 m) 1024 = 0 ∨ bitsR .and .i64 (w0 m) 8 = 0) ∧ bitsR .andNot .i64 (w0 m) 3072 = bitsR .andNot .i64 m 3072 := by
  have := w0_all ⟨m.toNat / 64, by omega⟩ ⟨m.toNat % 64, by omega⟩
  simp only at this
  rw [show ((64 * (m.toNat / 64) + m.toNat % 64 : Nat) : Int) = m by omega] at this
  exact this
theorem written_root {c : Cred} {m : Int} (h : 0 ≤ m ∧ m ≤ 4095) (h0 : c.uid = 0) : c.written 1 m = m := by
  unfold Cred.written Cred.root
  rw [decide_eq_true h0, Bool.true_or, if_pos rfl]
  omega
theorem written_other {c : Cred} {m : Int} (h0 : ¬ c.uid = 0) : c.written 1 m = w0 m := by
  unfold Cred.written Cred.root
  rw [decide_eq_false h0, Bool.false_or, decide_eq_true (rfl : (1 : Int) = 1), if_neg (by decide)]
  rfl
structure Step (c : Cred) (ch : Bool) (a n : Node) : Prop where
  kind : n.kind = 1
  uid : n.uid = a.uid
  gid : n.gid = a.gid
  keep : ch = false ∨ c.uid = 0 → n.mode = a.mode
  clean : ch = true → ¬ c.uid = 0 → bitsR .and .i64 n.mode 2048 = 0 ∧ (bitsR .and .i64 n.mode 1024 = 0 ∨ bitsR .and .i64 n.mode 8 = 0)
  rest : bitsR .andNot .i64 n.mode 3072 = bitsR .andNot .i64 a.mode 3072
theorem ok_file {n : Node} (h : nodeOk n = true) : 0 ≤ n.mode ∧ n.mode ≤ 4095 := by
  unfold nodeOk at h
  simp only [Bool.and_eq_true, decide_eq_true_eq] at h
  exact ⟨by omega, by omega⟩
theorem wrote_ok {c : Cred} {n : Node} {d : ByteArray} (hk : n.kind = 1) (h : nodeOk n = true) (hd : d.size ≤ 48) : nodeOk (wrote c n d) = true := by
  have hm := ok_file h
  have hm2 : 0 ≤ (wrote c n d).mode ∧ (wrote c n d).mode ≤ 4095 := by
    by_cases h0 : c.uid = 0
    · show 0 ≤ c.written n.kind n.mode ∧ c.written n.kind n.mode ≤ 4095
      rw [hk, written_root hm h0]; exact hm
    · show 0 ≤ c.written n.kind n.mode ∧ c.written n.kind n.mode ≤ 4095
      rw [hk, written_other h0]; exact (w0_ok hm).1
  unfold nodeOk at h ⊢
  rw [if_pos hk] at h
  rw [if_pos (show (wrote c n d).kind = 1 from hk)]
  simp only [Bool.and_eq_true, decide_eq_true_eq] at h ⊢
  obtain ⟨⟨⟨⟨a1, a2⟩, a3⟩, a4⟩, ⟨b1, b2⟩, b3⟩ := h
  exact ⟨⟨⟨⟨hm2.1, hm2.2⟩, a3⟩, a4⟩, ⟨b1, b2⟩, hd⟩
theorem at_okG {T : Tab} (hg : T.good) {i : Int} (h : T.has i = true) : nodeOk (T.at i) = true := by
  rcases at_zero_ok hg i with z | z
  · have := has_kind'.1 h
    rw [z] at this; exact absurd rfl this
  · exact z
structure PutW (T U : Tab) (c : Cred) (i : Int) (d : ByteArray) : Prop where
  good : U.good
  at_ : ∀ k, U.at k = if k = i then wrote c (T.at i) d else T.at k
structure OpenL (T : Tab) (c : Cred) (tr : Bool) (O : Tab × Int × Int) : Prop where
  good : O.1.good
  err : ¬ O.2.2 = 0 → O.1 = T
  ok : O.2.2 = 0 → T.has O.2.1 = true ∧ (T.at O.2.1).kind = 1 ∧ O.1 = if tr = true then (T.putE O.2.1 (wrote c (T.at O.2.1) ⟨#[]⟩)).1 else T
structure CleanL (T : Tab) (c : Cred) (i : Int) (tr : Bool) (b : ByteArray) (W : Tab × Int) : Prop where
  good : W.1.good
  step : ∀ ch : Bool, (ch = true ↔ tr = true ∨ (W.2 = 0 ∧ 0 < (b.size : Int))) → Step c ch (T.at i) (W.1.at i)
  rest : ∀ k, k ≠ i → W.1.at k = T.at k
end Abs
end Go.Proofs.Ytpifnlodilcgkaa

set_option linter.unusedVariables false
namespace Go.Proofs.Ytpifnlodilcgkaa
namespace Abs
set_option linter.unusedSimpArgs false
set_option maxRecDepth 10000
set_option maxHeartbeats 2000000
attribute [local irreducible] AOps AW AP ACalls thenQ inBlk noGoto

/-! ### FilesClean -/
end Abs
end Go.Proofs.Ytpifnlodilcgkaa
