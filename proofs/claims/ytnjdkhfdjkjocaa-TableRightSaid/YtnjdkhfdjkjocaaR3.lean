/-
  The law gaolerlaw09.TableRight answers true for every input, and its arguments read behind the call as they read before it: the statement of the given row, without any condition of ours.
-/
import Derived.Test.YtnjdkhfdjkjocaaL10
import Derived.Test.YtnjdkhfdjkjocaaR0
import Derived.Test.YtnjdkhfdjkjocaaRows
set_option linter.unusedVariables false
namespace Go.Proofs.Ytnjdkhfdjkjocaa
open Go.ChangeShapes Go.WideShapes Go.ChangeAt Go.RowKit
open Abs

def okAcs (x : AVal) : Prop := ∃ l : List Ac, x = .sl (l.map encAc) .no ∧ l.length ≤ 9223372036854775807 ∧ ∀ a ∈ l, a.n.wf ∧ in64 a.i
def okInts (x : AVal) : Prop := ∃ l : List Int, x = .sl (encInts l) .no ∧ l.length ≤ 9223372036854775807 ∧ ∀ n ∈ l, in64 n
theorem opens_ints : OpensV Try.prog 54 okInts :=
  (opensV_slice (by kernel_rfl) Try.underlying54 (by decide) (opens_int (k := .i64) (by kernel_rfl) Try.underlying3)).mono fun x ⟨rows, e, hl, hr⟩ => by
    obtain ⟨l, rfl, hw⟩ := rows_map (enc := fun n : Int => [AVal.i n]) (Q := in64) (rows := rows) (fun r h => by
      obtain ⟨⟨n, rfl, hn⟩, _⟩ := hr r h
      exact ⟨n, rfl, in64_of hn⟩)
    refine ⟨l, e, ?_, hw⟩
    simp only [maxLen, List.length_map] at hl
    omega
theorem tableRight_args : OpAll Try.prog [22, 22, 54] [okAcs, okAcs, okInts] := ⟨opens_acs, opens_acs, opens_ints, trivial⟩
theorem tableRight_all : ∀ xs, AllR [okAcs, okAcs, okInts] xs →
    ACalls Try.prog 7 xs (fun _ => none) (fun r _ => r = .sc (.bool true))
  | [_, _, _], ⟨⟨l, rfl, hl, hw⟩, ⟨m, rfl, hm, hv⟩, ⟨op, rfl, ho, _⟩, _⟩ => tableRight_c (l := l) (more := m) (op := op) (o1 := .no) (o2 := .no) (o3 := .no) (H := fun _ => none) (K := fun r _ => r = .sc (.bool true)) hl hm ho (fun a ha => (hw a ha).1.len) (fun a ha => (hv a ha).1.len) rfl

set_option maxRecDepth 100000 in
theorem tableRight_lifted (os : Os) (started : os.Started) (H : Type) (enc : TypeId × Value → H) :
    ReturnsInHanded {} Try.checked os 7 .any (Rows.tableRightSpec.pre6 enc Try.prog Try.f7 Rows.tableRightRow.domain false) (Rows.tableRightSpec.post enc Try.prog Try.f7 false true false false) := by
  refine returnsInHanded_of_change (C := Try.checked) Try.own started (by kernel_rfl) Try.func7
    (ChangeSpec.witness6 (enc := enc) (C := Try.checked) false ⟨#[], #[.slice none 0 0, .slice none 0 0, .slice none 0 0], []⟩ 8 (by kernel_rfl) (by kernel_rfl) (by kernel_rfl) (by kernel_rfl)) ?_
  intro W base args ds gs before hval hW _ _
  refine law_calls (ts := [22, 22, 54]) Try.laidOut (by kernel_rfl) (by kernel_rfl) Try.underlying4 rfl (fun H ds hl => ?_) (by kernel_rfl) tableRight_args tableRight_all W base args ds gs before hval hW
  match ds, hl with
  | [_, _, _], _ => rfl

theorem tableRight_holds : Rows.TableRightSaid :=
  OpenClaim.holds_of_wide 7 Try.f7 rfl rfl rfl rfl rfl rfl rfl ⟨rfl, rfl, rfl, rfl, rfl⟩ rfl rfl rfl rfl rfl (by kernel_rfl) Try.func7 (by kernel_rfl)
    (of_decide_eq_true (by kernel_rfl)) (by unfold Func.isWrapper; first | (rw [if_pos (by decide +kernel)]; kernel_rfl) | (rw [if_neg (by decide +kernel)]; exact ⟨rfl, rfl⟩))
    (fun os started H enc _ => tableRight_lifted os started H enc)
end Go.Proofs.Ytnjdkhfdjkjocaa
