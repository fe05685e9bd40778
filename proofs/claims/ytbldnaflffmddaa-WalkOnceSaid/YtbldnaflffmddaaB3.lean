import Derived.Test.YtbldnaflffmddaaB2
set_option linter.unusedVariables false
namespace Go.Proofs.Ytbldnaflffmddaa
namespace Abs
/-! ### bytes, as they are handed in -/
def okBytes (x : AVal) : Prop := ∃ s : ByteArray, x = .sl (encBytes s) .no ∧ s.size ≤ maxLen
theorem opensV_by : OpensV Try.prog 54 okBytes :=
  (opensV_slice (by kernel_rfl) Try.underlying54 (by decide) (opens_int (k := .u8) (by kernel_rfl) Try.underlying5)).mono fun x ⟨rows, e, hl, hr⟩ => by
    obtain ⟨l, rfl, _⟩ := rows_map (enc := fun c : UInt8 => [AVal.sc (.int .u8 c.toNat)]) (Q := fun _ => True) (rows := rows) (fun r h => by
      obtain ⟨⟨n, rfl, hn⟩, _⟩ := hr r h
      have := u8_of hn
      refine ⟨UInt8.ofNat n.toNat, ?_, trivial⟩
      have : ((UInt8.ofNat n.toNat).toNat : Int) = n := by simp; omega
      rw [this])
    exact ⟨⟨l.toArray⟩, by rw [e]; simp [encBytes], by simpa [ByteArray.size] using hl⟩
end Abs
end Go.Proofs.Ytbldnaflffmddaa
