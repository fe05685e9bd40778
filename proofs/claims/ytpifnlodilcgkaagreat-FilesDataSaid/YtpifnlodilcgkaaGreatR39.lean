/-
  The law gaolerlaw16.FilesData answers true for every input, and its arguments read behind the call as they read before it: the statement of the given row, without any condition of ours.
-/
import Derived.Test.YtpifnlodilcgkaaGreatHM
import Derived.Test.YtpifnlodilcgkaaGreatB3
import Derived.Test.YtpifnlodilcgkaaGreatRows
set_option linter.unusedVariables false
namespace Go.Proofs.YtpifnlodilcgkaaGreat
open Go.ChangeShapes Go.WideShapes Go.ChangeAt Go.RowKit
open Abs

theorem filesData_args : OpAll Tryz.prog [3, 22, 25, 3, 3, 3, 43] [okInt, okRaws, okCred, okInt, okInt, okInt, okBytes] := ⟨opensV_i64, opensV_raws, opensV_cred, opensV_i64, opensV_i64, opensV_i64, opensV_by, trivial⟩

theorem filesData_all (xs : List AVal) (h : AllR [okInt, okRaws, okCred, okInt, okInt, okInt, okBytes] xs) :
    ACalls Tryz.prog 4 xs (fun _ => none) (fun r _ => r = .sc (.bool true)) := by
  obtain _ | ⟨x0, xs⟩ := xs
  · exact h.elim
  obtain _ | ⟨x1, xs⟩ := xs
  · exact h.2.elim
  obtain _ | ⟨x2, xs⟩ := xs
  · exact h.2.2.elim
  obtain _ | ⟨x3, xs⟩ := xs
  · exact h.2.2.2.elim
  obtain _ | ⟨x4, xs⟩ := xs
  · exact h.2.2.2.2.elim
  obtain _ | ⟨x5, xs⟩ := xs
  · exact h.2.2.2.2.2.elim
  obtain _ | ⟨x6, xs⟩ := xs
  · exact h.2.2.2.2.2.2.elim
  obtain _ | ⟨z, zs⟩ := xs
  case cons => exact h.2.2.2.2.2.2.2.elim
  obtain ⟨h0, h1, h2, h3, h4, h5, h6, _⟩ := h
  obtain ⟨room, rfl, hroom⟩ := h0
  obtain ⟨l, rfl, hl⟩ := h1
  obtain ⟨c, rfl, hc⟩ := h2
  obtain ⟨i, rfl, hi⟩ := h3
  obtain ⟨off, rfl, hoff⟩ := h4
  obtain ⟨n, rfl, hn⟩ := h5
  obtain ⟨b, rfl, hb⟩ := h6
  exact filesData_c (room := room) (l := l) (c := c) (i := i) (off := off) (n := n) (b := b) (H := fun _ => none) (K := fun r _ => r = .sc (.bool true)) (Nat.le_trans hl (by decide)) hoff hn (Nat.le_trans hb (by decide)) rfl
set_option maxRecDepth 100000 in
theorem filesData_lifted (os : Os) (started : os.Started) (H : Type) (enc : TypeId × Value → H) :
    ReturnsInHanded {} Tryz.checked os 4 .any (Rows.filesDataSpec.pre6 enc Tryz.prog Tryz.f4 Rows.filesDataRow.domain false) (Rows.filesDataSpec.post enc Tryz.prog Tryz.f4 false true false false) := by
  refine returnsInHanded_of_change (C := Tryz.checked) Tryz.own started (by kernel_rfl) Tryz.func4
    (ChangeSpec.witness6 (enc := enc) (C := Tryz.checked) false ⟨#[], #[.int .i64 0, .slice none 0 0, .agg #[.int .i64 0, .int .i64 0, .slice none 0 0], .int .i64 0, .int .i64 0, .int .i64 0, .slice none 0 0], []⟩ 8 (by kernel_rfl) (by kernel_rfl) (by kernel_rfl) (by kernel_rfl)) ?_
  intro W base args ds gs before hval hW _ _
  refine law_calls (ts := [3, 22, 25, 3, 3, 3, 43]) Tryz.laidOut (by kernel_rfl) (by kernel_rfl) Tryz.underlying4 rfl (fun H ds hl => ?_) (by kernel_rfl) filesData_args filesData_all W base args ds gs before hval hW
  match ds, hl with
  | [_, _, _, _, _, _, _], _ => rfl

theorem filesData_holds : Rows.FilesDataSaid :=
  OpenClaim.holds_of_wide 4 Tryz.f4 rfl rfl rfl rfl rfl rfl rfl ⟨rfl, rfl, rfl, rfl, rfl⟩ rfl rfl rfl rfl rfl (by kernel_rfl) Tryz.func4 (by kernel_rfl)
    (of_decide_eq_true (by kernel_rfl)) (by unfold Func.isWrapper; first | (rw [if_pos (by decide +kernel)]; kernel_rfl) | (rw [if_neg (by decide +kernel)]; exact ⟨rfl, rfl⟩))
    (fun os started H enc _ => filesData_lifted os started H enc)
end Go.Proofs.YtpifnlodilcgkaaGreat
