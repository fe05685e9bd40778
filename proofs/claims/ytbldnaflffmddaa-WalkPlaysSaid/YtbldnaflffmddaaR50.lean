/-
  The law gaolerlaw20.WalkPlays answers true for every input, and its arguments read behind the call as they read before it: the statement of the given row, without any condition of ours.
-/
import Derived.Test.YtbldnaflffmddaaJV
import Derived.Test.YtbldnaflffmddaaB7
import Derived.Test.YtbldnaflffmddaaRows
set_option linter.unusedVariables false
namespace Go.Proofs.Ytbldnaflffmddaa
open Go.ChangeShapes Go.WideShapes Go.ChangeAt Go.RowKit
open Abs

theorem walkPlays_args : OpAll Try.prog [5, 4, 22, 35] [okU8W, okBoolW, okStrW, okA20] := ⟨opensV_u8W, opensV_blW, opensV_strW, opensV_a20, trivial⟩

theorem walkPlays_all (xs : List AVal) (h : AllR [okU8W, okBoolW, okStrW, okA20] xs) :
    ACalls Try.prog 5 xs (fun _ => none) (fun r _ => r = .sc (.bool true)) := by
  obtain _ | ⟨x0, xs⟩ := xs
  · exact h.elim
  obtain _ | ⟨x1, xs⟩ := xs
  · exact h.2.elim
  obtain _ | ⟨x2, xs⟩ := xs
  · exact h.2.2.elim
  obtain _ | ⟨x3, xs⟩ := xs
  · exact h.2.2.2.elim
  obtain _ | ⟨z, zs⟩ := xs
  case cons => exact h.2.2.2.2.elim
  obtain ⟨h0, h1, h2, h3, _⟩ := h
  obtain ⟨how, rfl, hhow⟩ := h0
  obtain ⟨deep, rfl⟩ := h1
  obtain ⟨ops, rfl, hops⟩ := h2
  obtain ⟨l, rfl, hl⟩ := h3
  exact walkPlays_c (how := how) (deep := deep) (ops := ops) (l := l) (H := fun _ => none) (K := fun r _ => r = .sc (.bool true)) (Nat.le_trans hops (by decide)) (Nat.le_trans hl.1 (by decide)) (fun a ha => Nat.le_trans (hl.2 a ha) (by decide)) rfl
set_option maxRecDepth 100000 in
theorem walkPlays_lifted (os : Os) (started : os.Started) (H : Type) (enc : TypeId × Value → H) :
    ReturnsInHanded {} Try.checked os 5 .any (Rows.walkPlaysSpec.pre6 enc Try.prog Try.f5 Rows.walkPlaysRow.domain false) (Rows.walkPlaysSpec.post enc Try.prog Try.f5 false true false false) := by
  refine returnsInHanded_of_change (C := Try.checked) Try.own started (by kernel_rfl) Try.func5
    (ChangeSpec.witness6 (enc := enc) (C := Try.checked) false ⟨#[], #[.int .u8 0, .bool false, .slice none 0 0, .slice none 0 0], []⟩ 8 (by kernel_rfl) (by kernel_rfl) (by kernel_rfl) (by kernel_rfl)) ?_
  intro W base args ds gs before hval hW _ _
  refine law_calls (ts := [5, 4, 22, 35]) Try.laidOut (by kernel_rfl) (by kernel_rfl) Try.underlying4 rfl (fun H ds hl => ?_) (by kernel_rfl) walkPlays_args walkPlays_all W base args ds gs before hval hW
  match ds, hl with
  | [_, _, _, _], _ => rfl

theorem walkPlays_holds : Rows.WalkPlaysSaid :=
  OpenClaim.holds_of_wide 5 Try.f5 rfl rfl rfl rfl rfl rfl rfl ⟨rfl, rfl, rfl, rfl, rfl⟩ rfl rfl rfl rfl rfl (by kernel_rfl) Try.func5 (by kernel_rfl)
    (of_decide_eq_true (by kernel_rfl)) (by unfold Func.isWrapper; first | (rw [if_pos (by decide +kernel)]; kernel_rfl) | (rw [if_neg (by decide +kernel)]; exact ⟨rfl, rfl⟩))
    (fun os started H enc _ => walkPlays_lifted os started H enc)
end Go.Proofs.Ytbldnaflffmddaa
