import Derived.Test.YtbldnaflffmddaaJK
import Derived.Test.YtbldnaflffmddaaB0
set_option linter.unusedVariables false
namespace Go.Proofs.Ytbldnaflffmddaa
namespace Abs

/-! ### texts, and what went wrong, as they are handed in -/
def okStrW (x : AVal) : Prop := ∃ l : List ByteArray, x = .sl (encStrs l) .no ∧ l.length ≤ maxLen
def okDgs (x : AVal) : Prop := ∃ l : List Dg, x = .sl (encDgs l) .no ∧ l.length ≤ maxLen
theorem opensV_strW : OpensV Try.prog 22 okStrW :=
  (opensV_slice (by kernel_rfl) Try.underlying22 (by decide) (opens_string (by kernel_rfl) Try.underlying9)).mono fun x ⟨rows, e, hl, hr⟩ => by
    obtain ⟨l, rfl, _⟩ := rows_map (enc := fun s : ByteArray => [AVal.s s]) (Q := fun _ => True) (rows := rows) (fun r h => by
      obtain ⟨⟨s, rfl, _⟩, _⟩ := hr r h
      exact ⟨s, rfl, trivial⟩)
    exact ⟨l, e, by simpa using hl⟩
theorem opens_dg : Opens Try.prog 64 2 (fun xs => ∃ e : Dg, xs = encDg e) :=
  (opens_struct (rs := [(1, _), (1, _)]) (by kernel_rfl) Try.underlying64 ⟨rfl, opens_string (by kernel_rfl) Try.underlying9, rfl, opens_int (k := .i64) (by kernel_rfl) Try.underlying62, trivial⟩ rfl).mono fun xs h => by
    obtain ⟨_, _, rfl, ⟨s, rfl, _⟩, _, _, rfl, ⟨n, rfl, _⟩, rfl⟩ := h
    exact ⟨⟨s, n⟩, rfl⟩
theorem opensV_dgs : OpensV Try.prog 57 okDgs :=
  (opensV_slice (by kernel_rfl) Try.underlying57 (by decide) opens_dg).mono fun x ⟨rows, e, hl, hr⟩ => by
    obtain ⟨l, rfl, _⟩ := rows_map (enc := encDg) (Q := fun _ => True) (fun r h => by
      obtain ⟨⟨s, rfl⟩, _⟩ := hr r h
      exact ⟨s, rfl, trivial⟩)
    exact ⟨l, e, by simpa using hl⟩
end Abs
end Go.Proofs.Ytbldnaflffmddaa
