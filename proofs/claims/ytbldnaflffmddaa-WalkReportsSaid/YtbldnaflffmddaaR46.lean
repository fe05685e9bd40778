/-
  The law gaolerlaw20.WalkReports answers true for every input, and its arguments read behind the call as they read before it: the statement of the given row, without any condition of ours.
-/
import Derived.Test.YtbldnaflffmddaaJL
import Derived.Test.YtbldnaflffmddaaB6
import Derived.Test.YtbldnaflffmddaaRows
set_option linter.unusedVariables false
namespace Go.Proofs.Ytbldnaflffmddaa
open Go.ChangeShapes Go.WideShapes Go.ChangeAt Go.RowKit
open Abs

theorem walkReports_args : OpAll Try.prog [57, 22] [okDgs, okStrW] := ⟨opensV_dgs, opensV_strW, trivial⟩

theorem walkReports_all (xs : List AVal) (h : AllR [okDgs, okStrW] xs) :
    ACalls Try.prog 7 xs (fun _ => none) (fun r _ => r = .sc (.bool true)) := by
  obtain _ | ⟨x0, xs⟩ := xs
  · exact h.elim
  obtain _ | ⟨x1, xs⟩ := xs
  · exact h.2.elim
  obtain _ | ⟨z, zs⟩ := xs
  case cons => exact h.2.2.elim
  obtain ⟨h0, h1, _⟩ := h
  obtain ⟨fs, rfl, hfs⟩ := h0
  obtain ⟨ls, rfl, hls⟩ := h1
  exact walkReports_c (fs := fs) (ls := ls) (H := fun _ => none) (K := fun r _ => r = .sc (.bool true)) (Nat.le_trans hfs (by decide)) (Nat.le_trans hls (by decide)) rfl
set_option maxRecDepth 100000 in
theorem walkReports_lifted (os : Os) (started : os.Started) (H : Type) (enc : TypeId × Value → H) :
    ReturnsInHanded {} Try.checked os 7 .any (Rows.walkReportsSpec.pre6 enc Try.prog Try.f7 Rows.walkReportsRow.domain false) (Rows.walkReportsSpec.post enc Try.prog Try.f7 false true false false) := by
  refine returnsInHanded_of_change (C := Try.checked) Try.own started (by kernel_rfl) Try.func7
    (ChangeSpec.witness6 (enc := enc) (C := Try.checked) false ⟨#[], #[.slice none 0 0, .slice none 0 0], []⟩ 8 (by kernel_rfl) (by kernel_rfl) (by kernel_rfl) (by kernel_rfl)) ?_
  intro W base args ds gs before hval hW _ _
  refine law_calls (ts := [57, 22]) Try.laidOut (by kernel_rfl) (by kernel_rfl) Try.underlying4 rfl (fun H ds hl => ?_) (by kernel_rfl) walkReports_args walkReports_all W base args ds gs before hval hW
  match ds, hl with
  | [_, _], _ => rfl

theorem walkReports_holds : Rows.WalkReportsSaid :=
  OpenClaim.holds_of_wide 7 Try.f7 rfl rfl rfl rfl rfl rfl rfl ⟨rfl, rfl, rfl, rfl, rfl⟩ rfl rfl rfl rfl rfl (by kernel_rfl) Try.func7 (by kernel_rfl)
    (of_decide_eq_true (by kernel_rfl)) (by unfold Func.isWrapper; first | (rw [if_pos (by decide +kernel)]; kernel_rfl) | (rw [if_neg (by decide +kernel)]; exact ⟨rfl, rfl⟩))
    (fun os started H enc _ => walkReports_lifted os started H enc)
end Go.Proofs.Ytbldnaflffmddaa
