import Derived.Test.YtbldnaflffmddaaJK
import Derived.Test.YtbldnaflffmddaaB0
set_option linter.unusedVariables false
namespace Go.Proofs.Ytbldnaflffmddaa
namespace Abs

/-! ### texts, and what went wrong, as they are handed in -/
def okStrW (x : AVal) : Prop := ∃ l : List ByteArray, x = .sl (encStrs l) .no ∧ l.length ≤ maxLen
def okU8W (x : AVal) : Prop := ∃ n : Int, x = .sc (.int .u8 n) ∧ 0 ≤ n ∧ n ≤ 255
def okBoolW (x : AVal) : Prop := ∃ b : Bool, x = .sc (.bool b)
theorem opensV_strW : OpensV Try.prog 22 okStrW :=
  (opensV_slice (by kernel_rfl) Try.underlying22 (by decide) (opens_string (by kernel_rfl) Try.underlying9)).mono fun x ⟨rows, e, hl, hr⟩ => by
    obtain ⟨l, rfl, _⟩ := rows_map (enc := fun s : ByteArray => [AVal.s s]) (Q := fun _ => True) (rows := rows) (fun r h => by
      obtain ⟨⟨s, rfl, _⟩, _⟩ := hr r h
      exact ⟨s, rfl, trivial⟩)
    exact ⟨l, e, by simpa using hl⟩
theorem opensV_u8W : OpensV Try.prog 5 okU8W := (opensV_int Try.underlying5).mono (fun x ⟨n, e, h⟩ => ⟨n, e, by
  simp only [Lit.wf, Bool.and_eq_true, decide_eq_true_eq] at h
  exact h⟩)
theorem opensV_blW : OpensV Try.prog 4 okBoolW := opensV_bool Try.underlying4
end Abs
end Go.Proofs.Ytbldnaflffmddaa
