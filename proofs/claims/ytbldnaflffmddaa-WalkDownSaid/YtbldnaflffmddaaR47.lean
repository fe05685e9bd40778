/-
  The law gaolerlaw20.WalkDown answers true for every input, and its arguments read behind the call as they read before it: the statement of the given row, without any condition of ours.
-/
import Derived.Test.YtbldnaflffmddaaJM
import Derived.Test.YtbldnaflffmddaaB6
import Derived.Test.YtbldnaflffmddaaRows
set_option linter.unusedVariables false
namespace Go.Proofs.Ytbldnaflffmddaa
open Go.ChangeShapes Go.WideShapes Go.ChangeAt Go.RowKit
open Abs

theorem walkDown_args : OpAll Try.prog [4, 22, 22, 5] [okBoolW, okStrW, okStrW, okU8W] := ⟨opensV_blW, opensV_strW, opensV_strW, opensV_u8W, trivial⟩

theorem walkDown_all (xs : List AVal) (h : AllR [okBoolW, okStrW, okStrW, okU8W] xs) :
    ACalls Try.prog 3 xs (fun _ => none) (fun r _ => r = .sc (.bool true)) := by
  obtain _ | ⟨x0, xs⟩ := xs
  · exact h.elim
  obtain _ | ⟨x1, xs⟩ := xs
  · exact h.2.elim
  obtain _ | ⟨x2, xs⟩ := xs
  · exact h.2.2.elim
  obtain _ | ⟨x3, xs⟩ := xs
  · exact h.2.2.2.elim
  obtain _ | ⟨z, zs⟩ := xs
  case cons => exact h.2.2.2.2.elim
  obtain ⟨h0, h1, h2, h3, _⟩ := h
  obtain ⟨deep, rfl⟩ := h0
  obtain ⟨ops, rfl, hops⟩ := h1
  obtain ⟨names, rfl, hnames⟩ := h2
  obtain ⟨skip, rfl, hskip⟩ := h3
  exact walkDown_c (deep := deep) (ops := ops) (names := names) (skip := skip) (H := fun _ => none) (K := fun r _ => r = .sc (.bool true)) (Nat.le_trans hops (by decide)) (Nat.le_trans hnames (by decide)) hskip rfl
set_option maxRecDepth 100000 in
theorem walkDown_lifted (os : Os) (started : os.Started) (H : Type) (enc : TypeId × Value → H) :
    ReturnsInHanded {} Try.checked os 3 .any (Rows.walkDownSpec.pre6 enc Try.prog Try.f3 Rows.walkDownRow.domain false) (Rows.walkDownSpec.post enc Try.prog Try.f3 false true false false) := by
  refine returnsInHanded_of_change (C := Try.checked) Try.own started (by kernel_rfl) Try.func3
    (ChangeSpec.witness6 (enc := enc) (C := Try.checked) false ⟨#[], #[.bool false, .slice none 0 0, .slice none 0 0, .int .u8 0], []⟩ 8 (by kernel_rfl) (by kernel_rfl) (by kernel_rfl) (by kernel_rfl)) ?_
  intro W base args ds gs before hval hW _ _
  refine law_calls (ts := [4, 22, 22, 5]) Try.laidOut (by kernel_rfl) (by kernel_rfl) Try.underlying4 rfl (fun H ds hl => ?_) (by kernel_rfl) walkDown_args walkDown_all W base args ds gs before hval hW
  match ds, hl with
  | [_, _, _, _], _ => rfl

theorem walkDown_holds : Rows.WalkDownSaid :=
  OpenClaim.holds_of_wide 3 Try.f3 rfl rfl rfl rfl rfl rfl rfl ⟨rfl, rfl, rfl, rfl, rfl⟩ rfl rfl rfl rfl rfl (by kernel_rfl) Try.func3 (by kernel_rfl)
    (of_decide_eq_true (by kernel_rfl)) (by unfold Func.isWrapper; first | (rw [if_pos (by decide +kernel)]; kernel_rfl) | (rw [if_neg (by decide +kernel)]; exact ⟨rfl, rfl⟩))
    (fun os started H enc _ => walkDown_lifted os started H enc)
end Go.Proofs.Ytbldnaflffmddaa
