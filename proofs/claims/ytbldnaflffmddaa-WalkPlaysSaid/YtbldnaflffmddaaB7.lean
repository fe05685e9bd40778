import Derived.Test.YtbldnaflffmddaaJU
import Derived.Test.YtbldnaflffmddaaB6
set_option linter.unusedVariables false
namespace Go.Proofs.Ytbldnaflffmddaa
namespace Abs

/-! ### what is done with a walk, as it is handed in -/
def okA20 (x : AVal) : Prop := ∃ l : List Act20, x = .sl (encA20s l) .no ∧ l.length ≤ maxLen ∧ ∀ a ∈ l, a.names.length ≤ maxLen
theorem opens_stat : Opens Try.prog 44 7 (fun xs => ∃ a b c d e f g : Int, xs = [.i a, .i b, .i c, .i d, .i e, .i f, .i g]) :=
  (opens_struct (rs := [(1, _), (1, _), (1, _), (1, _), (1, _), (1, _), (1, _)]) (by kernel_rfl) Try.underlying44
    ⟨rfl, opens_int (k := .i64) (by kernel_rfl) Try.underlying3, rfl, opens_int (k := .i64) (by kernel_rfl) Try.underlying3, rfl, opens_int (k := .i64) (by kernel_rfl) Try.underlying3, rfl, opens_int (k := .i64) (by kernel_rfl) Try.underlying3,
      rfl, opens_int (k := .i64) (by kernel_rfl) Try.underlying3, rfl, opens_int (k := .i64) (by kernel_rfl) Try.underlying3, rfl, opens_int (k := .i64) (by kernel_rfl) Try.underlying3, trivial⟩ rfl).mono fun xs h => by
    obtain ⟨_, _, rfl, ⟨k, rfl, _⟩, _, _, rfl, ⟨m, rfl, _⟩, _, _, rfl, ⟨u, rfl, _⟩, _, _, rfl, ⟨g, rfl, _⟩, _, _, rfl, ⟨d, rfl, _⟩, _, _, rfl, ⟨es, rfl, _⟩, _, _, rfl, ⟨t, rfl, _⟩, rfl⟩ := h
    exact ⟨k, m, u, g, d, es, t, rfl⟩
theorem opens_strsW : Opens Try.prog 22 1 (fun xs => ∃ l : List ByteArray, xs = [.sl (encStrs l) .no] ∧ l.length ≤ maxLen) :=
  (opens_slice (by kernel_rfl) Try.underlying22 (by decide) (opens_string (by kernel_rfl) Try.underlying9)).mono fun x ⟨rows, e, hl, hr⟩ => by
    obtain ⟨l, rfl, _⟩ := rows_map (enc := fun s : ByteArray => [AVal.s s]) (Q := fun _ => True) (rows := rows) (fun r h => by
      obtain ⟨⟨s, rfl, _⟩, _⟩ := hr r h
      exact ⟨s, rfl, trivial⟩)
    exact ⟨l, e, by simpa using hl⟩
theorem opens_a20 : Opens Try.prog 46 9 (fun xs => ∃ a : Act20, xs = encA20 a ∧ a.names.length ≤ maxLen) :=
  (opens_struct (rs := [(1, _), (7, _), (1, _)]) (by kernel_rfl) Try.underlying46 ⟨rfl, opens_int (k := .u8) (by kernel_rfl) Try.underlying5, rfl, opens_stat, rfl, opens_strsW, trivial⟩ rfl).mono fun xs h => by
    obtain ⟨_, _, rfl, ⟨k, rfl, _⟩, _, _, rfl, ⟨a, b, c, d, e, f, g, rfl⟩, _, _, rfl, ⟨l, rfl, hl⟩, rfl⟩ := h
    exact ⟨⟨k, (a, b, c, d, e, f, g), l⟩, rfl, hl⟩
theorem opensV_a20 : OpensV Try.prog 35 okA20 :=
  (opensV_slice (by kernel_rfl) Try.underlying35 (by decide) opens_a20).mono fun x ⟨rows, e, hl, hr⟩ => by
    obtain ⟨l, rfl, hq⟩ := rows_map (enc := encA20) (Q := fun a : Act20 => a.names.length ≤ maxLen) (rows := rows) (fun r h => by
      obtain ⟨⟨s, rfl, hs⟩, _⟩ := hr r h
      exact ⟨s, rfl, hs⟩)
    exact ⟨l, e, by simpa using hl, hq⟩
end Abs
end Go.Proofs.Ytbldnaflffmddaa
