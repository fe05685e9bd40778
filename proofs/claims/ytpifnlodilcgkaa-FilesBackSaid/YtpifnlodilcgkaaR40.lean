/-
  The law gaolerlaw16.FilesBack answers true for every input, and its arguments read behind the call as they read before it: the statement of the given row, without any condition of ours.
-/
import Derived.Test.YtpifnlodilcgkaaHO
import Derived.Test.YtpifnlodilcgkaaB3
import Derived.Test.YtpifnlodilcgkaaRows
set_option linter.unusedVariables false
namespace Go.Proofs.Ytpifnlodilcgkaa
open Go.ChangeShapes Go.WideShapes Go.ChangeAt Go.RowKit
open Abs

theorem filesBack_args : OpAll Try.prog [3, 22, 5, 5, 26, 5] [okInt, okRaws, okU8', okU8', okBytes, okU8'] := ⟨opensV_i64, opensV_raws, opensV_u8, opensV_u8, opensV_by, opensV_u8, trivial⟩

theorem filesBack_all (xs : List AVal) (h : AllR [okInt, okRaws, okU8', okU8', okBytes, okU8'] xs) :
    ACalls Try.prog 4 xs (fun _ => none) (fun r _ => r = .sc (.bool true)) := by
  obtain _ | ⟨x0, xs⟩ := xs
  · exact h.elim
  obtain _ | ⟨x1, xs⟩ := xs
  · exact h.2.elim
  obtain _ | ⟨x2, xs⟩ := xs
  · exact h.2.2.elim
  obtain _ | ⟨x3, xs⟩ := xs
  · exact h.2.2.2.elim
  obtain _ | ⟨x4, xs⟩ := xs
  · exact h.2.2.2.2.elim
  obtain _ | ⟨x5, xs⟩ := xs
  · exact h.2.2.2.2.2.elim
  obtain _ | ⟨z, zs⟩ := xs
  case cons => exact h.2.2.2.2.2.2.elim
  obtain ⟨h0, h1, h2, h3, h4, h5, _⟩ := h
  obtain ⟨room, rfl, hroom⟩ := h0
  obtain ⟨l, rfl, hl⟩ := h1
  obtain ⟨i, rfl, hi⟩ := h2
  obtain ⟨off, rfl, hoff⟩ := h3
  obtain ⟨b, rfl, hb⟩ := h4
  obtain ⟨cut, rfl, hcut⟩ := h5
  exact filesBack_c (room := room) (l := l) (i := i) (off := off) (b := b) (cut := cut) (H := fun _ => none) (K := fun r _ => r = .sc (.bool true)) (Nat.le_trans hl (by decide)) hi hoff hcut (Nat.le_trans hb (by decide)) rfl
set_option maxRecDepth 100000 in
theorem filesBack_lifted (os : Os) (started : os.Started) (H : Type) (enc : TypeId × Value → H) :
    ReturnsInHanded {} Try.checked os 4 .any (Rows.filesBackSpec.pre6 enc Try.prog Try.f4 Rows.filesBackRow.domain false) (Rows.filesBackSpec.post enc Try.prog Try.f4 false true false false) := by
  refine returnsInHanded_of_change (C := Try.checked) Try.own started (by kernel_rfl) Try.func4
    (ChangeSpec.witness6 (enc := enc) (C := Try.checked) false ⟨#[], #[.int .i64 0, .slice none 0 0, .int .u8 0, .int .u8 0, .slice none 0 0, .int .u8 0], []⟩ 8 (by kernel_rfl) (by kernel_rfl) (by kernel_rfl) (by kernel_rfl)) ?_
  intro W base args ds gs before hval hW _ _
  refine law_calls (ts := [3, 22, 5, 5, 26, 5]) Try.laidOut (by kernel_rfl) (by kernel_rfl) Try.underlying4 rfl (fun H ds hl => ?_) (by kernel_rfl) filesBack_args filesBack_all W base args ds gs before hval hW
  match ds, hl with
  | [_, _, _, _, _, _], _ => rfl

theorem filesBack_holds : Rows.FilesBackSaid :=
  OpenClaim.holds_of_wide 4 Try.f4 rfl rfl rfl rfl rfl rfl rfl ⟨rfl, rfl, rfl, rfl, rfl⟩ rfl rfl rfl rfl rfl (by kernel_rfl) Try.func4 (by kernel_rfl)
    (of_decide_eq_true (by kernel_rfl)) (by unfold Func.isWrapper; first | (rw [if_pos (by decide +kernel)]; kernel_rfl) | (rw [if_neg (by decide +kernel)]; exact ⟨rfl, rfl⟩))
    (fun os started H enc _ => filesBack_lifted os started H enc)
end Go.Proofs.Ytpifnlodilcgkaa
