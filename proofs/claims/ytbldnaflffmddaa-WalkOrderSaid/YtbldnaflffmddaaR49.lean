/-
  The law gaolerlaw20.WalkOrder answers true for every input, and its arguments read behind the call as they read before it: the statement of the given row, without any condition of ours.
-/
import Derived.Test.YtbldnaflffmddaaJR
import Derived.Test.YtbldnaflffmddaaB6
import Derived.Test.YtbldnaflffmddaaRows
set_option linter.unusedVariables false
namespace Go.Proofs.Ytbldnaflffmddaa
open Go.ChangeShapes Go.WideShapes Go.ChangeAt Go.RowKit
open Abs

theorem walkOrder_args : OpAll Try.prog [5, 22] [okU8W, okStrW] := ⟨opensV_u8W, opensV_strW, trivial⟩

theorem walkOrder_all (xs : List AVal) (h : AllR [okU8W, okStrW] xs) :
    ACalls Try.prog 4 xs (fun _ => none) (fun r _ => r = .sc (.bool true)) := by
  obtain _ | ⟨x0, xs⟩ := xs
  · exact h.elim
  obtain _ | ⟨x1, xs⟩ := xs
  · exact h.2.elim
  obtain _ | ⟨z, zs⟩ := xs
  case cons => exact h.2.2.elim
  obtain ⟨h0, h1, _⟩ := h
  obtain ⟨depth, rfl, hdepth⟩ := h0
  obtain ⟨names, rfl, hnames⟩ := h1
  exact walkOrder_c (dp := depth) (names := names) (H := fun _ => none) (K := fun r _ => r = .sc (.bool true)) (Nat.le_trans hnames (by decide)) hdepth rfl
set_option maxRecDepth 100000 in
theorem walkOrder_lifted (os : Os) (started : os.Started) (H : Type) (enc : TypeId × Value → H) :
    ReturnsInHanded {} Try.checked os 4 .any (Rows.walkOrderSpec.pre6 enc Try.prog Try.f4 Rows.walkOrderRow.domain false) (Rows.walkOrderSpec.post enc Try.prog Try.f4 false true false false) := by
  refine returnsInHanded_of_change (C := Try.checked) Try.own started (by kernel_rfl) Try.func4
    (ChangeSpec.witness6 (enc := enc) (C := Try.checked) false ⟨#[], #[.int .u8 0, .slice none 0 0], []⟩ 8 (by kernel_rfl) (by kernel_rfl) (by kernel_rfl) (by kernel_rfl)) ?_
  intro W base args ds gs before hval hW _ _
  refine law_calls (ts := [5, 22]) Try.laidOut (by kernel_rfl) (by kernel_rfl) Try.underlying4 rfl (fun H ds hl => ?_) (by kernel_rfl) walkOrder_args walkOrder_all W base args ds gs before hval hW
  match ds, hl with
  | [_, _], _ => rfl

theorem walkOrder_holds : Rows.WalkOrderSaid :=
  OpenClaim.holds_of_wide 4 Try.f4 rfl rfl rfl rfl rfl rfl rfl ⟨rfl, rfl, rfl, rfl, rfl⟩ rfl rfl rfl rfl rfl (by kernel_rfl) Try.func4 (by kernel_rfl)
    (of_decide_eq_true (by kernel_rfl)) (by unfold Func.isWrapper; first | (rw [if_pos (by decide +kernel)]; kernel_rfl) | (rw [if_neg (by decide +kernel)]; exact ⟨rfl, rfl⟩))
    (fun os started H enc _ => walkOrder_lifted os started H enc)
end Go.Proofs.Ytbldnaflffmddaa
