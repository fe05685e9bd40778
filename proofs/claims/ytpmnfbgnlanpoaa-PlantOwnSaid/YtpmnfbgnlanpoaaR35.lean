/-
  The law gaolerlaw14.PlantOwn answers true for every input, and its arguments read behind the call as they read before it: the statement of the given row, without any condition of ours.
-/
import Derived.Test.YtpmnfbgnlanpoaaGX
import Derived.Test.YtpmnfbgnlanpoaaB2
import Derived.Test.YtpmnfbgnlanpoaaRows
set_option linter.unusedVariables false
namespace Go.Proofs.Ytpmnfbgnlanpoaa
open Go.ChangeShapes Go.WideShapes Go.ChangeAt Go.RowKit
open Abs

theorem plantOwn_args : OpAll Try.prog [3, 22, 27, 52, 9, 52, 5] [okInt, okRaws, okCred, okU16, okStr', okU16, okU8'] := ⟨opensV_i64, opensV_raws, opensV_cred, opensV_u16, opensV_st, opensV_u16, opensV_u8, trivial⟩

theorem plantOwn_all (xs : List AVal) (h : AllR [okInt, okRaws, okCred, okU16, okStr', okU16, okU8'] xs) :
    ACalls Try.prog 5 xs (fun _ => none) (fun r _ => r = .sc (.bool true)) := by
  obtain _ | ⟨x0, xs⟩ := xs
  · exact h.elim
  obtain _ | ⟨x1, xs⟩ := xs
  · exact h.2.elim
  obtain _ | ⟨x2, xs⟩ := xs
  · exact h.2.2.elim
  obtain _ | ⟨x3, xs⟩ := xs
  · exact h.2.2.2.elim
  obtain _ | ⟨x4, xs⟩ := xs
  · exact h.2.2.2.2.elim
  obtain _ | ⟨x5, xs⟩ := xs
  · exact h.2.2.2.2.2.elim
  obtain _ | ⟨x6, xs⟩ := xs
  · exact h.2.2.2.2.2.2.elim
  obtain _ | ⟨z, zs⟩ := xs
  case cons => exact h.2.2.2.2.2.2.2.elim
  obtain ⟨h0, h1, h2, h3, h4, h5, h6, _⟩ := h
  obtain ⟨room, rfl, hroom⟩ := h0
  obtain ⟨l, rfl, hl⟩ := h1
  obtain ⟨c, rfl, hc⟩ := h2
  obtain ⟨umask, rfl, humask⟩ := h3
  obtain ⟨path, rfl, hpath⟩ := h4
  obtain ⟨mode, rfl, hmode⟩ := h5
  obtain ⟨kd, rfl, hkd⟩ := h6
  exact plantOwn_c (room := room) (l := l) (c := c) (umask := umask) (path := path) (mode := mode) (kd := kd) (H := fun _ => none) (K := fun r _ => r = .sc (.bool true)) (Nat.le_trans hl (by decide)) humask hmode hkd rfl
set_option maxRecDepth 100000 in
theorem plantOwn_lifted (os : Os) (started : os.Started) (H : Type) (enc : TypeId × Value → H) :
    ReturnsInHanded {} Try.checked os 5 .any (Rows.plantOwnSpec.pre6 enc Try.prog Try.f5 Rows.plantOwnRow.domain false) (Rows.plantOwnSpec.post enc Try.prog Try.f5 false true false false) := by
  refine returnsInHanded_of_change (C := Try.checked) Try.own started (by kernel_rfl) Try.func5
    (ChangeSpec.witness6 (enc := enc) (C := Try.checked) false ⟨#[], #[.int .i64 0, .slice none 0 0, .agg #[.int .i64 0, .int .i64 0, .slice none 0 0], .int .u16 0, .string ⟨#[]⟩, .int .u16 0, .int .u8 0], []⟩ 8 (by kernel_rfl) (by kernel_rfl) (by kernel_rfl) (by kernel_rfl)) ?_
  intro W base args ds gs before hval hW _ _
  refine law_calls (ts := [3, 22, 27, 52, 9, 52, 5]) Try.laidOut (by kernel_rfl) (by kernel_rfl) Try.underlying4 rfl (fun H ds hl => ?_) (by kernel_rfl) plantOwn_args plantOwn_all W base args ds gs before hval hW
  match ds, hl with
  | [_, _, _, _, _, _, _], _ => rfl

theorem plantOwn_holds : Rows.PlantOwnSaid :=
  OpenClaim.holds_of_wide 5 Try.f5 rfl rfl rfl rfl rfl rfl rfl ⟨rfl, rfl, rfl, rfl, rfl⟩ rfl rfl rfl rfl rfl (by kernel_rfl) Try.func5 (by kernel_rfl)
    (of_decide_eq_true (by kernel_rfl)) (by unfold Func.isWrapper; first | (rw [if_pos (by decide +kernel)]; kernel_rfl) | (rw [if_neg (by decide +kernel)]; exact ⟨rfl, rfl⟩))
    (fun os started H enc _ => plantOwn_lifted os started H enc)
end Go.Proofs.Ytpmnfbgnlanpoaa
