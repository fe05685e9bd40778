/-
  The law gaolerlaw14.PlantRoom answers true for every input, and its arguments read behind the call as they read before it: the statement of the given row, without any condition of ours.
-/
import Derived.Test.YtpmnfbgnlanpoaaGV
import Derived.Test.YtpmnfbgnlanpoaaB2
import Derived.Test.YtpmnfbgnlanpoaaRows
set_option linter.unusedVariables false
namespace Go.Proofs.Ytpmnfbgnlanpoaa
open Go.ChangeShapes Go.WideShapes Go.ChangeAt Go.RowKit
open Abs

theorem plantRoom_args : OpAll Try.prog [5, 22, 23] [okU8', okRaws, okStrs] := ⟨opensV_u8, opensV_raws, opensV_strs, trivial⟩

theorem plantRoom_all (xs : List AVal) (h : AllR [okU8', okRaws, okStrs] xs) :
    ACalls Try.prog 3 xs (fun _ => none) (fun r _ => r = .sc (.bool true)) := by
  obtain _ | ⟨x0, xs⟩ := xs
  · exact h.elim
  obtain _ | ⟨x1, xs⟩ := xs
  · exact h.2.elim
  obtain _ | ⟨x2, xs⟩ := xs
  · exact h.2.2.elim
  obtain _ | ⟨z, zs⟩ := xs
  case cons => exact h.2.2.2.elim
  obtain ⟨h0, h1, h2, _⟩ := h
  obtain ⟨room, rfl, hroom⟩ := h0
  obtain ⟨l, rfl, hl⟩ := h1
  obtain ⟨names, rfl, hnames⟩ := h2
  exact plantRoom_c (room := room) (l := l) (names := names) (H := fun _ => none) (K := fun r _ => r = .sc (.bool true)) hroom (Nat.le_trans hl (by decide)) rfl
set_option maxRecDepth 100000 in
theorem plantRoom_lifted (os : Os) (started : os.Started) (H : Type) (enc : TypeId × Value → H) :
    ReturnsInHanded {} Try.checked os 3 .any (Rows.plantRoomSpec.pre6 enc Try.prog Try.f3 Rows.plantRoomRow.domain false) (Rows.plantRoomSpec.post enc Try.prog Try.f3 false true false false) := by
  refine returnsInHanded_of_change (C := Try.checked) Try.own started (by kernel_rfl) Try.func3
    (ChangeSpec.witness6 (enc := enc) (C := Try.checked) false ⟨#[], #[.int .u8 0, .slice none 0 0, .slice none 0 0], []⟩ 8 (by kernel_rfl) (by kernel_rfl) (by kernel_rfl) (by kernel_rfl)) ?_
  intro W base args ds gs before hval hW _ _
  refine law_calls (ts := [5, 22, 23]) Try.laidOut (by kernel_rfl) (by kernel_rfl) Try.underlying4 rfl (fun H ds hl => ?_) (by kernel_rfl) plantRoom_args plantRoom_all W base args ds gs before hval hW
  match ds, hl with
  | [_, _, _], _ => rfl

theorem plantRoom_holds : Rows.PlantRoomSaid :=
  OpenClaim.holds_of_wide 3 Try.f3 rfl rfl rfl rfl rfl rfl rfl ⟨rfl, rfl, rfl, rfl, rfl⟩ rfl rfl rfl rfl rfl (by kernel_rfl) Try.func3 (by kernel_rfl)
    (of_decide_eq_true (by kernel_rfl)) (by unfold Func.isWrapper; first | (rw [if_pos (by decide +kernel)]; kernel_rfl) | (rw [if_neg (by decide +kernel)]; exact ⟨rfl, rfl⟩))
    (fun os started H enc _ => plantRoom_lifted os started H enc)
end Go.Proofs.Ytpmnfbgnlanpoaa
