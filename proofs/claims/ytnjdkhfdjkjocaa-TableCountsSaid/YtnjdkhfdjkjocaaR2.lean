/-
  The law gaolerlaw09.TableCounts answers true for every input, and its arguments read behind the call as they read before it: the statement of the given row, without any condition of ours.
-/
import Derived.Test.YtnjdkhfdjkjocaaL7
import Derived.Test.YtnjdkhfdjkjocaaR0
import Derived.Test.YtnjdkhfdjkjocaaRows
set_option linter.unusedVariables false
namespace Go.Proofs.Ytnjdkhfdjkjocaa
open Go.ChangeShapes Go.WideShapes Go.ChangeAt Go.RowKit
open Abs

theorem tableCounts_args : OpAll Try.prog [22] [fun x => ∃ l : List Ac, x = .sl (l.map encAc) .no ∧ l.length ≤ 9223372036854775807 ∧ ∀ a ∈ l, a.n.wf ∧ in64 a.i] := ⟨opens_acs, trivial⟩
theorem tableCounts_all : ∀ xs, AllR [fun x => ∃ l : List Ac, x = .sl (l.map encAc) .no ∧ l.length ≤ 9223372036854775807 ∧ ∀ a ∈ l, a.n.wf ∧ in64 a.i] xs →
    ACalls Try.prog 4 xs (fun _ => none) (fun r _ => r = .sc (.bool true))
  | [_], ⟨⟨l, rfl, hl, hw⟩, _⟩ => tableCounts_c (l := l) (o := .no) (H := fun _ => none) (K := fun r _ => r = .sc (.bool true)) hl (fun a ha => (hw a ha).1.len) rfl

set_option maxRecDepth 100000 in
theorem tableCounts_lifted (os : Os) (started : os.Started) (H : Type) (enc : TypeId × Value → H) :
    ReturnsInHanded {} Try.checked os 4 .any (Rows.tableCountsSpec.pre6 enc Try.prog Try.f4 Rows.tableCountsRow.domain false) (Rows.tableCountsSpec.post enc Try.prog Try.f4 false true false false) := by
  refine returnsInHanded_of_change (C := Try.checked) Try.own started (by kernel_rfl) Try.func4
    (ChangeSpec.witness6 (enc := enc) (C := Try.checked) false ⟨#[], #[.slice none 0 0], []⟩ 8 (by kernel_rfl) (by kernel_rfl) (by kernel_rfl) (by kernel_rfl)) ?_
  intro W base args ds gs before hval hW _ _
  refine law_calls (ts := [22]) Try.laidOut (by kernel_rfl) (by kernel_rfl) Try.underlying4 rfl (fun H ds hl => ?_) (by kernel_rfl) tableCounts_args tableCounts_all W base args ds gs before hval hW
  match ds, hl with
  | [_], _ => rfl

theorem tableCounts_holds : Rows.TableCountsSaid :=
  OpenClaim.holds_of_wide 4 Try.f4 rfl rfl rfl rfl rfl rfl rfl ⟨rfl, rfl, rfl, rfl, rfl⟩ rfl rfl rfl rfl rfl (by kernel_rfl) Try.func4 (by kernel_rfl)
    (of_decide_eq_true (by kernel_rfl)) (by unfold Func.isWrapper; first | (rw [if_pos (by decide +kernel)]; kernel_rfl) | (rw [if_neg (by decide +kernel)]; exact ⟨rfl, rfl⟩))
    (fun os started H enc _ => tableCounts_lifted os started H enc)
end Go.Proofs.Ytnjdkhfdjkjocaa
