/-
  The law gaolerlaw16.FilesClean answers true for every input, and its arguments read behind the call as they read before it: the statement of the given row, without any condition of ours.
-/
import Derived.Test.YtpifnlodilcgkaaHG
import Derived.Test.YtpifnlodilcgkaaB3
import Derived.Test.YtpifnlodilcgkaaRows
set_option linter.unusedVariables false
namespace Go.Proofs.Ytpifnlodilcgkaa
open Go.ChangeShapes Go.WideShapes Go.ChangeAt Go.RowKit
open Abs

theorem filesClean_args : OpAll Try.prog [3, 22, 25, 9, 4, 26] [okInt, okRaws, okCred, okStr', okBool, okBytes] := ⟨opensV_i64, opensV_raws, opensV_cred, opensV_st, opensV_bl, opensV_by, trivial⟩

theorem filesClean_all (xs : List AVal) (h : AllR [okInt, okRaws, okCred, okStr', okBool, okBytes] xs) :
    ACalls Try.prog 3 xs (fun _ => none) (fun r _ => r = .sc (.bool true)) := by
  obtain _ | ⟨x0, xs⟩ := xs
  · exact h.elim
  obtain _ | ⟨x1, xs⟩ := xs
  · exact h.2.elim
  obtain _ | ⟨x2, xs⟩ := xs
  · exact h.2.2.elim
  obtain _ | ⟨x3, xs⟩ := xs
  · exact h.2.2.2.elim
  obtain _ | ⟨x4, xs⟩ := xs
  · exact h.2.2.2.2.elim
  obtain _ | ⟨x5, xs⟩ := xs
  · exact h.2.2.2.2.2.elim
  obtain _ | ⟨z, zs⟩ := xs
  case cons => exact h.2.2.2.2.2.2.elim
  obtain ⟨h0, h1, h2, h3, h4, h5, _⟩ := h
  obtain ⟨room, rfl, hroom⟩ := h0
  obtain ⟨l, rfl, hl⟩ := h1
  obtain ⟨c, rfl, hc⟩ := h2
  obtain ⟨path, rfl, hpath⟩ := h3
  obtain ⟨tr, rfl⟩ := h4
  obtain ⟨b, rfl, hb⟩ := h5
  exact filesClean_c (room := room) (l := l) (c := c) (path := path) (tr := tr) (b := b) (H := fun _ => none) (K := fun r _ => r = .sc (.bool true)) (Nat.le_trans hl (by decide)) (Nat.le_trans hb (by decide)) rfl
set_option maxRecDepth 100000 in
theorem filesClean_lifted (os : Os) (started : os.Started) (H : Type) (enc : TypeId × Value → H) :
    ReturnsInHanded {} Try.checked os 3 .any (Rows.filesCleanSpec.pre6 enc Try.prog Try.f3 Rows.filesCleanRow.domain false) (Rows.filesCleanSpec.post enc Try.prog Try.f3 false true false false) := by
  refine returnsInHanded_of_change (C := Try.checked) Try.own started (by kernel_rfl) Try.func3
    (ChangeSpec.witness6 (enc := enc) (C := Try.checked) false ⟨#[], #[.int .i64 0, .slice none 0 0, .agg #[.int .i64 0, .int .i64 0, .slice none 0 0], .string ⟨#[]⟩, .bool false, .slice none 0 0], []⟩ 8 (by kernel_rfl) (by kernel_rfl) (by kernel_rfl) (by kernel_rfl)) ?_
  intro W base args ds gs before hval hW _ _
  refine law_calls (ts := [3, 22, 25, 9, 4, 26]) Try.laidOut (by kernel_rfl) (by kernel_rfl) Try.underlying4 rfl (fun H ds hl => ?_) (by kernel_rfl) filesClean_args filesClean_all W base args ds gs before hval hW
  match ds, hl with
  | [_, _, _, _, _, _], _ => rfl

theorem filesClean_holds : Rows.FilesCleanSaid :=
  OpenClaim.holds_of_wide 3 Try.f3 rfl rfl rfl rfl rfl rfl rfl ⟨rfl, rfl, rfl, rfl, rfl⟩ rfl rfl rfl rfl rfl (by kernel_rfl) Try.func3 (by kernel_rfl)
    (of_decide_eq_true (by kernel_rfl)) (by unfold Func.isWrapper; first | (rw [if_pos (by decide +kernel)]; kernel_rfl) | (rw [if_neg (by decide +kernel)]; exact ⟨rfl, rfl⟩))
    (fun os started H enc _ => filesClean_lifted os started H enc)
end Go.Proofs.Ytpifnlodilcgkaa
