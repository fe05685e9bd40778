/-
  The law gaolerlaw08.NodeOrder answers true for every input, and its arguments read behind the call as they read before it: the statement of the given row, without any condition of ours.
-/
import Derived.Test.YtmokoofibnoojaaM11
import Derived.Test.YtmokoofibnoojaaB0
import Derived.Test.YtmokoofibnoojaaRows
set_option linter.unusedVariables false
namespace Go.Proofs.Ytmokoofibnoojaa
open Go.ChangeShapes Go.WideShapes Go.ChangeAt Go.RowKit
open Abs

def okStrs (x : AVal) : Prop := ∃ l : List ByteArray, x = .sl (encStrs l) .no ∧ l.length ≤ maxLen
def okU8 (x : AVal) : Prop := ∃ n : Int, x = .sc (.int .u8 n) ∧ 0 ≤ n ∧ n ≤ 255
theorem opensV_strs : OpensV Try.prog 64 okStrs :=
  (opensV_slice (by kernel_rfl) Try.underlying64 (by decide) (opens_string (by kernel_rfl) Try.underlying9)).mono fun x ⟨rows, e, hl, hr⟩ => by
    obtain ⟨l, rfl, _⟩ := rows_map (enc := fun s : ByteArray => [AVal.s s]) (Q := fun _ => True) (fun r h => by
      obtain ⟨⟨s, rfl, _⟩, _⟩ := hr r h
      exact ⟨s, rfl, trivial⟩)
    exact ⟨l, e, by simpa using hl⟩
theorem nodeOrder_args : OpAll Try.prog [64, 5] [okStrs, okU8] := ⟨opensV_strs, (opensV_int Try.underlying5).mono (fun x ⟨n, e, h⟩ => ⟨n, e, u8_of h⟩), trivial⟩

theorem nodeOrder_all (xs : List AVal) (h : AllR [okStrs, okU8] xs) :
    ACalls Try.prog 12 xs (fun _ => none) (fun r _ => r = .sc (.bool true)) := by
  obtain _ | ⟨x0, xs⟩ := xs
  · exact h.elim
  obtain _ | ⟨x1, xs⟩ := xs
  · exact h.2.elim
  obtain _ | ⟨z, zs⟩ := xs
  case cons => exact h.2.2.elim
  obtain ⟨h0, h1, _⟩ := h
  obtain ⟨l, rfl, hl⟩ := h0
  obtain ⟨t, rfl, ht0, ht1⟩ := h1
  exact nodeOrder_c (l := l) (t := t) (H := fun _ => none) (K := fun r _ => r = .sc (.bool true)) ht0 ht1 rfl
set_option maxRecDepth 100000 in
theorem nodeOrder_lifted (os : Os) (started : os.Started) (H : Type) (enc : TypeId × Value → H) :
    ReturnsInHanded {} Try.checked os 12 .any (Rows.nodeOrderSpec.pre6 enc Try.prog Try.f12 Rows.nodeOrderRow.domain false) (Rows.nodeOrderSpec.post enc Try.prog Try.f12 false true false false) := by
  refine returnsInHanded_of_change (C := Try.checked) Try.own started (by kernel_rfl) Try.func12
    (ChangeSpec.witness6 (enc := enc) (C := Try.checked) false ⟨#[], #[.slice none 0 0, .int .u8 0], []⟩ 8 (by kernel_rfl) (by kernel_rfl) (by kernel_rfl) (by kernel_rfl)) ?_
  intro W base args ds gs before hval hW _ _
  refine law_calls (ts := [64, 5]) Try.laidOut (by kernel_rfl) (by kernel_rfl) Try.underlying4 rfl (fun H ds hl => ?_) (by kernel_rfl) nodeOrder_args nodeOrder_all W base args ds gs before hval hW
  match ds, hl with
  | [_, _], _ => rfl

theorem nodeOrder_holds : Rows.NodeOrderSaid :=
  OpenClaim.holds_of_wide 12 Try.f12 rfl rfl rfl rfl rfl rfl rfl ⟨rfl, rfl, rfl, rfl, rfl⟩ rfl rfl rfl rfl rfl (by kernel_rfl) Try.func12 (by kernel_rfl)
    (of_decide_eq_true (by kernel_rfl)) (by unfold Func.isWrapper; first | (rw [if_pos (by decide +kernel)]; kernel_rfl) | (rw [if_neg (by decide +kernel)]; exact ⟨rfl, rfl⟩))
    (fun os started H enc _ => nodeOrder_lifted os started H enc)
end Go.Proofs.Ytmokoofibnoojaa
