/-
  The law gaolerlaw10.BuildRoom answers true for every input, and its arguments read behind the call as they read before it: the statement of the given row, without any condition of ours.
-/
import Derived.Test.YtpifnlodilcgkaaIH
import Derived.Test.YtpifnlodilcgkaaB2
import Derived.Test.YtpifnlodilcgkaaRows
set_option linter.unusedVariables false
namespace Go.Proofs.Ytpifnlodilcgkaa
open Go.ChangeShapes Go.WideShapes Go.ChangeAt Go.RowKit
open Abs

theorem buildRoom_args : OpAll Try.prog [22, 5, 5] [okRaws, okU8', okU8'] := ⟨opensV_raws, opensV_u8, opensV_u8, trivial⟩

theorem buildRoom_all (xs : List AVal) (h : AllR [okRaws, okU8', okU8'] xs) :
    ACalls Try.prog 10 xs (fun _ => none) (fun r _ => r = .sc (.bool true)) := by
  obtain _ | ⟨x0, xs⟩ := xs
  · exact h.elim
  obtain _ | ⟨x1, xs⟩ := xs
  · exact h.2.elim
  obtain _ | ⟨x2, xs⟩ := xs
  · exact h.2.2.elim
  obtain _ | ⟨z, zs⟩ := xs
  case cons => exact h.2.2.2.elim
  obtain ⟨h0, h1, h2, _⟩ := h
  obtain ⟨l, rfl, hl⟩ := h0
  obtain ⟨room, rfl, hroom⟩ := h1
  obtain ⟨more, rfl, hmore⟩ := h2
  exact buildRoom_c (room := room) (l := l) (more := more) (H := fun _ => none) (K := fun r _ => r = .sc (.bool true)) (Nat.le_trans hl (by decide)) hroom hmore rfl
set_option maxRecDepth 100000 in
theorem buildRoom_lifted (os : Os) (started : os.Started) (H : Type) (enc : TypeId × Value → H) :
    ReturnsInHanded {} Try.checked os 10 .any (Rows.buildRoomSpec.pre6 enc Try.prog Try.f10 Rows.buildRoomRow.domain false) (Rows.buildRoomSpec.post enc Try.prog Try.f10 false true false false) := by
  refine returnsInHanded_of_change (C := Try.checked) Try.own started (by kernel_rfl) Try.func10
    (ChangeSpec.witness6 (enc := enc) (C := Try.checked) false ⟨#[], #[.slice none 0 0, .int .u8 0, .int .u8 0], []⟩ 8 (by kernel_rfl) (by kernel_rfl) (by kernel_rfl) (by kernel_rfl)) ?_
  intro W base args ds gs before hval hW _ _
  refine law_calls (ts := [22, 5, 5]) Try.laidOut (by kernel_rfl) (by kernel_rfl) Try.underlying4 rfl (fun H ds hl => ?_) (by kernel_rfl) buildRoom_args buildRoom_all W base args ds gs before hval hW
  match ds, hl with
  | [_, _, _], _ => rfl

theorem buildRoom_holds : Rows.BuildRoomSaid :=
  OpenClaim.holds_of_wide 10 Try.f10 rfl rfl rfl rfl rfl rfl rfl ⟨rfl, rfl, rfl, rfl, rfl⟩ rfl rfl rfl rfl rfl (by kernel_rfl) Try.func10 (by kernel_rfl)
    (of_decide_eq_true (by kernel_rfl)) (by unfold Func.isWrapper; first | (rw [if_pos (by decide +kernel)]; kernel_rfl) | (rw [if_neg (by decide +kernel)]; exact ⟨rfl, rfl⟩))
    (fun os started H enc _ => buildRoom_lifted os started H enc)
end Go.Proofs.Ytpifnlodilcgkaa
