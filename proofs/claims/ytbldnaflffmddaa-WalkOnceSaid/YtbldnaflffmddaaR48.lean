/-
  The law gaolerlaw20.WalkOnce answers true for every input, and its arguments read behind the call as they read before it: the statement of the given row, without any condition of ours.
-/
import Derived.Test.YtbldnaflffmddaaJP
import Derived.Test.YtbldnaflffmddaaB3
import Derived.Test.YtbldnaflffmddaaRows
set_option linter.unusedVariables false
namespace Go.Proofs.Ytbldnaflffmddaa
open Go.ChangeShapes Go.WideShapes Go.ChangeAt Go.RowKit
open Abs

theorem walkOnce_args : OpAll Try.prog [54, 54] [okBytes, okBytes] := ⟨opensV_by, opensV_by, trivial⟩

theorem walkOnce_all (xs : List AVal) (h : AllR [okBytes, okBytes] xs) :
    ACalls Try.prog 6 xs (fun _ => none) (fun r _ => r = .sc (.bool true)) := by
  obtain _ | ⟨x0, xs⟩ := xs
  · exact h.elim
  obtain _ | ⟨x1, xs⟩ := xs
  · exact h.2.elim
  obtain _ | ⟨z, zs⟩ := xs
  case cons => exact h.2.2.elim
  obtain ⟨h0, h1, _⟩ := h
  obtain ⟨nodes, rfl, hnodes⟩ := h0
  obtain ⟨kinds, rfl, hkinds⟩ := h1
  exact walkOnce_c (ns := nodes) (kd := kinds) (H := fun _ => none) (K := fun r _ => r = .sc (.bool true)) (Nat.le_trans hnodes (by decide)) (Nat.le_trans hkinds (by decide)) rfl
set_option maxRecDepth 100000 in
theorem walkOnce_lifted (os : Os) (started : os.Started) (H : Type) (enc : TypeId × Value → H) :
    ReturnsInHanded {} Try.checked os 6 .any (Rows.walkOnceSpec.pre6 enc Try.prog Try.f6 Rows.walkOnceRow.domain false) (Rows.walkOnceSpec.post enc Try.prog Try.f6 false true false false) := by
  refine returnsInHanded_of_change (C := Try.checked) Try.own started (by kernel_rfl) Try.func6
    (ChangeSpec.witness6 (enc := enc) (C := Try.checked) false ⟨#[], #[.slice none 0 0, .slice none 0 0], []⟩ 8 (by kernel_rfl) (by kernel_rfl) (by kernel_rfl) (by kernel_rfl)) ?_
  intro W base args ds gs before hval hW _ _
  refine law_calls (ts := [54, 54]) Try.laidOut (by kernel_rfl) (by kernel_rfl) Try.underlying4 rfl (fun H ds hl => ?_) (by kernel_rfl) walkOnce_args walkOnce_all W base args ds gs before hval hW
  match ds, hl with
  | [_, _], _ => rfl

theorem walkOnce_holds : Rows.WalkOnceSaid :=
  OpenClaim.holds_of_wide 6 Try.f6 rfl rfl rfl rfl rfl rfl rfl ⟨rfl, rfl, rfl, rfl, rfl⟩ rfl rfl rfl rfl rfl (by kernel_rfl) Try.func6 (by kernel_rfl)
    (of_decide_eq_true (by kernel_rfl)) (by unfold Func.isWrapper; first | (rw [if_pos (by decide +kernel)]; kernel_rfl) | (rw [if_neg (by decide +kernel)]; exact ⟨rfl, rfl⟩))
    (fun os started H enc _ => walkOnce_lifted os started H enc)
end Go.Proofs.Ytbldnaflffmddaa
