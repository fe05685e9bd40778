/-
  The law gaolerlaw15.PruneTakes answers true for every input, and its arguments read behind the call as they read before it: the statement of the given row, without any condition of ours.
-/
import Derived.Test.YtpmnfbgnlanpoaaGreatGM
import Derived.Test.YtpmnfbgnlanpoaaGreatB2
import Derived.Test.YtpmnfbgnlanpoaaGreatRows
set_option linter.unusedVariables false
namespace Go.Proofs.YtpmnfbgnlanpoaaGreat
open Go.ChangeShapes Go.WideShapes Go.ChangeAt Go.RowKit
open Abs

theorem pruneTakes_args : OpAll Tryz.prog [3, 22, 25, 9, 23, 3, 3] [okInt, okRaws, okCred, okStr', okInts', okInt, okInt] := ⟨opensV_i64, opensV_raws, opensV_cred, opensV_st, opensV_ints, opensV_i64, opensV_i64, trivial⟩

theorem pruneTakes_all (xs : List AVal) (h : AllR [okInt, okRaws, okCred, okStr', okInts', okInt, okInt] xs) :
    ACalls Tryz.prog 5 xs (fun _ => none) (fun r _ => r = .sc (.bool true)) := by
  obtain _ | ⟨x0, xs⟩ := xs
  · exact h.elim
  obtain _ | ⟨x1, xs⟩ := xs
  · exact h.2.elim
  obtain _ | ⟨x2, xs⟩ := xs
  · exact h.2.2.elim
  obtain _ | ⟨x3, xs⟩ := xs
  · exact h.2.2.2.elim
  obtain _ | ⟨x4, xs⟩ := xs
  · exact h.2.2.2.2.elim
  obtain _ | ⟨x5, xs⟩ := xs
  · exact h.2.2.2.2.2.elim
  obtain _ | ⟨x6, xs⟩ := xs
  · exact h.2.2.2.2.2.2.elim
  obtain _ | ⟨z, zs⟩ := xs
  case cons => exact h.2.2.2.2.2.2.2.elim
  obtain ⟨h0, h1, h2, h3, h4, h5, h6, _⟩ := h
  obtain ⟨room, rfl, hroom⟩ := h0
  obtain ⟨l, rfl, hl⟩ := h1
  obtain ⟨c, rfl, hc⟩ := h2
  obtain ⟨path, rfl, hpath⟩ := h3
  obtain ⟨op, rfl, hop⟩ := h4
  obtain ⟨i, rfl, hi⟩ := h5
  obtain ⟨dir, rfl, hdir⟩ := h6
  exact pruneTakes_c (room := room) (l := l) (c := c) (path := path) (op := op) (i := i) (dir := dir) (H := fun _ => none) (K := fun r _ => r = .sc (.bool true)) (Nat.le_trans hl (by decide)) rfl
set_option maxRecDepth 100000 in
theorem pruneTakes_lifted (os : Os) (started : os.Started) (H : Type) (enc : TypeId × Value → H) :
    ReturnsInHanded {} Tryz.checked os 5 .any (Rows.pruneTakesSpec.pre6 enc Tryz.prog Tryz.f5 Rows.pruneTakesRow.domain false) (Rows.pruneTakesSpec.post enc Tryz.prog Tryz.f5 false true false false) := by
  refine returnsInHanded_of_change (C := Tryz.checked) Tryz.own started (by kernel_rfl) Tryz.func5
    (ChangeSpec.witness6 (enc := enc) (C := Tryz.checked) false ⟨#[], #[.int .i64 0, .slice none 0 0, .agg #[.int .i64 0, .int .i64 0, .slice none 0 0], .string ⟨#[]⟩, .slice none 0 0, .int .i64 0, .int .i64 0], []⟩ 8 (by kernel_rfl) (by kernel_rfl) (by kernel_rfl) (by kernel_rfl)) ?_
  intro W base args ds gs before hval hW _ _
  refine law_calls (ts := [3, 22, 25, 9, 23, 3, 3]) Tryz.laidOut (by kernel_rfl) (by kernel_rfl) Tryz.underlying4 rfl (fun H ds hl => ?_) (by kernel_rfl) pruneTakes_args pruneTakes_all W base args ds gs before hval hW
  match ds, hl with
  | [_, _, _, _, _, _, _], _ => rfl

theorem pruneTakes_holds : Rows.PruneTakesSaid :=
  OpenClaim.holds_of_wide 5 Tryz.f5 rfl rfl rfl rfl rfl rfl rfl ⟨rfl, rfl, rfl, rfl, rfl⟩ rfl rfl rfl rfl rfl (by kernel_rfl) Tryz.func5 (by kernel_rfl)
    (of_decide_eq_true (by kernel_rfl)) (by unfold Func.isWrapper; first | (rw [if_pos (by decide +kernel)]; kernel_rfl) | (rw [if_neg (by decide +kernel)]; exact ⟨rfl, rfl⟩))
    (fun os started H enc _ => pruneTakes_lifted os started H enc)
end Go.Proofs.YtpmnfbgnlanpoaaGreat
