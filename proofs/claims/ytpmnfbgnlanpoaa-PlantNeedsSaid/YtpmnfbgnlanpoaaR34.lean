/-
  The law gaolerlaw14.PlantNeeds answers true for every input, and its arguments read behind the call as they read before it: the statement of the given row, without any condition of ours.
-/
import Derived.Test.YtpmnfbgnlanpoaaGW
import Derived.Test.YtpmnfbgnlanpoaaB2
import Derived.Test.YtpmnfbgnlanpoaaRows
set_option linter.unusedVariables false
namespace Go.Proofs.Ytpmnfbgnlanpoaa
open Go.ChangeShapes Go.WideShapes Go.ChangeAt Go.RowKit
open Abs

theorem plantNeeds_args : OpAll Try.prog [3, 22, 27, 3, 9, 9, 3] [okInt, okRaws, okCred, okInt, okStr', okStr', okInt] := ⟨opensV_i64, opensV_raws, opensV_cred, opensV_i64, opensV_st, opensV_st, opensV_i64, trivial⟩

theorem plantNeeds_all (xs : List AVal) (h : AllR [okInt, okRaws, okCred, okInt, okStr', okStr', okInt] xs) :
    ACalls Try.prog 4 xs (fun _ => none) (fun r _ => r = .sc (.bool true)) := by
  obtain _ | ⟨x0, xs⟩ := xs
  · exact h.elim
  obtain _ | ⟨x1, xs⟩ := xs
  · exact h.2.elim
  obtain _ | ⟨x2, xs⟩ := xs
  · exact h.2.2.elim
  obtain _ | ⟨x3, xs⟩ := xs
  · exact h.2.2.2.elim
  obtain _ | ⟨x4, xs⟩ := xs
  · exact h.2.2.2.2.elim
  obtain _ | ⟨x5, xs⟩ := xs
  · exact h.2.2.2.2.2.elim
  obtain _ | ⟨x6, xs⟩ := xs
  · exact h.2.2.2.2.2.2.elim
  obtain _ | ⟨z, zs⟩ := xs
  case cons => exact h.2.2.2.2.2.2.2.elim
  obtain ⟨h0, h1, h2, h3, h4, h5, h6, _⟩ := h
  obtain ⟨room, rfl, hroom⟩ := h0
  obtain ⟨l, rfl, hl⟩ := h1
  obtain ⟨c, rfl, hc⟩ := h2
  obtain ⟨umask, rfl, humask⟩ := h3
  obtain ⟨dir, rfl, hdir⟩ := h4
  obtain ⟨name, rfl, hname⟩ := h5
  obtain ⟨mode, rfl, hmode⟩ := h6
  exact plantNeeds_c (room := room) (l := l) (c := c) (umask := umask) (dir := dir) (name := name) (mode := mode) (H := fun _ => none) (K := fun r _ => r = .sc (.bool true)) (Nat.le_trans hl (by decide)) rfl
set_option maxRecDepth 100000 in
theorem plantNeeds_lifted (os : Os) (started : os.Started) (H : Type) (enc : TypeId × Value → H) :
    ReturnsInHanded {} Try.checked os 4 .any (Rows.plantNeedsSpec.pre6 enc Try.prog Try.f4 Rows.plantNeedsRow.domain false) (Rows.plantNeedsSpec.post enc Try.prog Try.f4 false true false false) := by
  refine returnsInHanded_of_change (C := Try.checked) Try.own started (by kernel_rfl) Try.func4
    (ChangeSpec.witness6 (enc := enc) (C := Try.checked) false ⟨#[], #[.int .i64 0, .slice none 0 0, .agg #[.int .i64 0, .int .i64 0, .slice none 0 0], .int .i64 0, .string ⟨#[]⟩, .string ⟨#[]⟩, .int .i64 0], []⟩ 8 (by kernel_rfl) (by kernel_rfl) (by kernel_rfl) (by kernel_rfl)) ?_
  intro W base args ds gs before hval hW _ _
  refine law_calls (ts := [3, 22, 27, 3, 9, 9, 3]) Try.laidOut (by kernel_rfl) (by kernel_rfl) Try.underlying4 rfl (fun H ds hl => ?_) (by kernel_rfl) plantNeeds_args plantNeeds_all W base args ds gs before hval hW
  match ds, hl with
  | [_, _, _, _, _, _, _], _ => rfl

theorem plantNeeds_holds : Rows.PlantNeedsSaid :=
  OpenClaim.holds_of_wide 4 Try.f4 rfl rfl rfl rfl rfl rfl rfl ⟨rfl, rfl, rfl, rfl, rfl⟩ rfl rfl rfl rfl rfl (by kernel_rfl) Try.func4 (by kernel_rfl)
    (of_decide_eq_true (by kernel_rfl)) (by unfold Func.isWrapper; first | (rw [if_pos (by decide +kernel)]; kernel_rfl) | (rw [if_neg (by decide +kernel)]; exact ⟨rfl, rfl⟩))
    (fun os started H enc _ => plantNeeds_lifted os started H enc)
end Go.Proofs.Ytpmnfbgnlanpoaa
