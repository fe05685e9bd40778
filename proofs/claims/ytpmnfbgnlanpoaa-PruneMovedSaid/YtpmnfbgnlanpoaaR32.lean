/-
  The law gaolerlaw15.PruneMoved answers true for every input, and its arguments read behind the call as they read before it: the statement of the given row, without any condition of ours.
-/
import Derived.Test.YtpmnfbgnlanpoaaGT
import Derived.Test.YtpmnfbgnlanpoaaB2
import Derived.Test.YtpmnfbgnlanpoaaRows
set_option linter.unusedVariables false
namespace Go.Proofs.Ytpmnfbgnlanpoaa
open Go.ChangeShapes Go.WideShapes Go.ChangeAt Go.RowKit
open Abs

theorem pruneMoved_args : OpAll Try.prog [3, 22, 9, 9] [okInt, okRaws, okStr', okStr'] := ⟨opensV_i64, opensV_raws, opensV_st, opensV_st, trivial⟩

theorem pruneMoved_all (xs : List AVal) (h : AllR [okInt, okRaws, okStr', okStr'] xs) :
    ACalls Try.prog 8 xs (fun _ => none) (fun r _ => r = .sc (.bool true)) := by
  obtain _ | ⟨x0, xs⟩ := xs
  · exact h.elim
  obtain _ | ⟨x1, xs⟩ := xs
  · exact h.2.elim
  obtain _ | ⟨x2, xs⟩ := xs
  · exact h.2.2.elim
  obtain _ | ⟨x3, xs⟩ := xs
  · exact h.2.2.2.elim
  obtain _ | ⟨z, zs⟩ := xs
  case cons => exact h.2.2.2.2.elim
  obtain ⟨h0, h1, h2, h3, _⟩ := h
  obtain ⟨room, rfl, hroom⟩ := h0
  obtain ⟨l, rfl, hl⟩ := h1
  obtain ⟨fr, rfl, hfr⟩ := h2
  obtain ⟨tg, rfl, htg⟩ := h3
  exact pruneMoved_c (room := room) (l := l) (fr := fr) (tg := tg) (H := fun _ => none) (K := fun r _ => r = .sc (.bool true)) (Nat.le_trans hl (by decide)) rfl
set_option maxRecDepth 100000 in
theorem pruneMoved_lifted (os : Os) (started : os.Started) (H : Type) (enc : TypeId × Value → H) :
    ReturnsInHanded {} Try.checked os 8 .any (Rows.pruneMovedSpec.pre6 enc Try.prog Try.f8 Rows.pruneMovedRow.domain false) (Rows.pruneMovedSpec.post enc Try.prog Try.f8 false true false false) := by
  refine returnsInHanded_of_change (C := Try.checked) Try.own started (by kernel_rfl) Try.func8
    (ChangeSpec.witness6 (enc := enc) (C := Try.checked) false ⟨#[], #[.int .i64 0, .slice none 0 0, .string ⟨#[]⟩, .string ⟨#[]⟩], []⟩ 8 (by kernel_rfl) (by kernel_rfl) (by kernel_rfl) (by kernel_rfl)) ?_
  intro W base args ds gs before hval hW _ _
  refine law_calls (ts := [3, 22, 9, 9]) Try.laidOut (by kernel_rfl) (by kernel_rfl) Try.underlying4 rfl (fun H ds hl => ?_) (by kernel_rfl) pruneMoved_args pruneMoved_all W base args ds gs before hval hW
  match ds, hl with
  | [_, _, _, _], _ => rfl

theorem pruneMoved_holds : Rows.PruneMovedSaid :=
  OpenClaim.holds_of_wide 8 Try.f8 rfl rfl rfl rfl rfl rfl rfl ⟨rfl, rfl, rfl, rfl, rfl⟩ rfl rfl rfl rfl rfl (by kernel_rfl) Try.func8 (by kernel_rfl)
    (of_decide_eq_true (by kernel_rfl)) (by unfold Func.isWrapper; first | (rw [if_pos (by decide +kernel)]; kernel_rfl) | (rw [if_neg (by decide +kernel)]; exact ⟨rfl, rfl⟩))
    (fun os started H enc _ => pruneMoved_lifted os started H enc)
end Go.Proofs.Ytpmnfbgnlanpoaa
