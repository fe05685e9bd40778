/-
  The law gaolerlaw10.BuildAgain answers true for every input, and its arguments read behind the call as they read before it: the statement of the given row, without any condition of ours.
-/
import Derived.Test.YtpifnlodilcgkaaIQ
import Derived.Test.YtpifnlodilcgkaaB2
import Derived.Test.YtpifnlodilcgkaaRows
set_option linter.unusedVariables false
namespace Go.Proofs.Ytpifnlodilcgkaa
open Go.ChangeShapes Go.WideShapes Go.ChangeAt Go.RowKit
open Abs

theorem buildAgain_args : OpAll Try.prog [5, 22] [okU8', okRaws] := ⟨opensV_u8, opensV_raws, trivial⟩

theorem buildAgain_all (xs : List AVal) (h : AllR [okU8', okRaws] xs) :
    ACalls Try.prog 9 xs (fun _ => none) (fun r _ => r = .sc (.bool true)) := by
  obtain _ | ⟨x0, xs⟩ := xs
  · exact h.elim
  obtain _ | ⟨x1, xs⟩ := xs
  · exact h.2.elim
  obtain _ | ⟨z, zs⟩ := xs
  case cons => exact h.2.2.elim
  obtain ⟨h0, h1, _⟩ := h
  obtain ⟨room, rfl, hroom⟩ := h0
  obtain ⟨l, rfl, hl⟩ := h1
  exact buildAgain_c (room := room) (l := l) (H := fun _ => none) (K := fun r _ => r = .sc (.bool true)) hroom (Nat.le_trans hl (by decide)) rfl
set_option maxRecDepth 100000 in
theorem buildAgain_lifted (os : Os) (started : os.Started) (H : Type) (enc : TypeId × Value → H) :
    ReturnsInHanded {} Try.checked os 9 .any (Rows.buildAgainSpec.pre6 enc Try.prog Try.f9 Rows.buildAgainRow.domain false) (Rows.buildAgainSpec.post enc Try.prog Try.f9 false true false false) := by
  refine returnsInHanded_of_change (C := Try.checked) Try.own started (by kernel_rfl) Try.func9
    (ChangeSpec.witness6 (enc := enc) (C := Try.checked) false ⟨#[], #[.int .u8 0, .slice none 0 0], []⟩ 8 (by kernel_rfl) (by kernel_rfl) (by kernel_rfl) (by kernel_rfl)) ?_
  intro W base args ds gs before hval hW _ _
  refine law_calls (ts := [5, 22]) Try.laidOut (by kernel_rfl) (by kernel_rfl) Try.underlying4 rfl (fun H ds hl => ?_) (by kernel_rfl) buildAgain_args buildAgain_all W base args ds gs before hval hW
  match ds, hl with
  | [_, _], _ => rfl

theorem buildAgain_holds : Rows.BuildAgainSaid :=
  OpenClaim.holds_of_wide 9 Try.f9 rfl rfl rfl rfl rfl rfl rfl ⟨rfl, rfl, rfl, rfl, rfl⟩ rfl rfl rfl rfl rfl (by kernel_rfl) Try.func9 (by kernel_rfl)
    (of_decide_eq_true (by kernel_rfl)) (by unfold Func.isWrapper; first | (rw [if_pos (by decide +kernel)]; kernel_rfl) | (rw [if_neg (by decide +kernel)]; exact ⟨rfl, rfl⟩))
    (fun os started H enc _ => buildAgain_lifted os started H enc)
end Go.Proofs.Ytpifnlodilcgkaa
