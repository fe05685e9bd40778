/-
  The law gaolerlaw10.BuildTells answers true for every input, and its arguments read behind the call as they read before it: the statement of the given row, without any condition of ours.
-/
import Derived.Test.YtpifnlodilcgkaaIS
import Derived.Test.YtpifnlodilcgkaaB5
import Derived.Test.YtpifnlodilcgkaaRows
set_option linter.unusedVariables false
namespace Go.Proofs.Ytpifnlodilcgkaa
open Go.ChangeShapes Go.WideShapes Go.ChangeAt Go.RowKit
open Abs

theorem buildTells_args : OpAll Try.prog [3, 22, 67] [okInt, okRaws, okNodes] := ⟨opensV_i64, opensV_raws, opensV_nodes, trivial⟩

theorem buildTells_all (xs : List AVal) (h : AllR [okInt, okRaws, okNodes] xs) :
    ACalls Try.prog 7 xs (fun _ => none) (fun r _ => r = .sc (.bool true)) := by
  obtain _ | ⟨x0, xs⟩ := xs
  · exact h.elim
  obtain _ | ⟨x1, xs⟩ := xs
  · exact h.2.elim
  obtain _ | ⟨x2, xs⟩ := xs
  · exact h.2.2.elim
  obtain _ | ⟨z, zs⟩ := xs
  case cons => exact h.2.2.2.elim
  obtain ⟨h0, h1, h2, _⟩ := h
  obtain ⟨room, rfl, hroom⟩ := h0
  obtain ⟨l, rfl, hl⟩ := h1
  obtain ⟨nodes, rfl, hnodes⟩ := h2
  exact buildTells_c (room := room) (l := l) (ns := nodes) (H := fun _ => none) (K := fun r _ => r = .sc (.bool true)) (Nat.le_trans hl (by decide)) (Nat.le_trans hnodes (by decide)) rfl
set_option maxRecDepth 100000 in
theorem buildTells_lifted (os : Os) (started : os.Started) (H : Type) (enc : TypeId × Value → H) :
    ReturnsInHanded {} Try.checked os 7 .any (Rows.buildTellsSpec.pre6 enc Try.prog Try.f7 Rows.buildTellsRow.domain false) (Rows.buildTellsSpec.post enc Try.prog Try.f7 false true false false) := by
  refine returnsInHanded_of_change (C := Try.checked) Try.own started (by kernel_rfl) Try.func7
    (ChangeSpec.witness6 (enc := enc) (C := Try.checked) false ⟨#[], #[.int .i64 0, .slice none 0 0, .slice none 0 0], []⟩ 8 (by kernel_rfl) (by kernel_rfl) (by kernel_rfl) (by kernel_rfl)) ?_
  intro W base args ds gs before hval hW _ _
  refine law_calls (ts := [3, 22, 67]) Try.laidOut (by kernel_rfl) (by kernel_rfl) Try.underlying4 rfl (fun H ds hl => ?_) (by kernel_rfl) buildTells_args buildTells_all W base args ds gs before hval hW
  match ds, hl with
  | [_, _, _], _ => rfl

theorem buildTells_holds : Rows.BuildTellsSaid :=
  OpenClaim.holds_of_wide 7 Try.f7 rfl rfl rfl rfl rfl rfl rfl ⟨rfl, rfl, rfl, rfl, rfl⟩ rfl rfl rfl rfl rfl (by kernel_rfl) Try.func7 (by kernel_rfl)
    (of_decide_eq_true (by kernel_rfl)) (by unfold Func.isWrapper; first | (rw [if_pos (by decide +kernel)]; kernel_rfl) | (rw [if_neg (by decide +kernel)]; exact ⟨rfl, rfl⟩))
    (fun os started H enc _ => buildTells_lifted os started H enc)
end Go.Proofs.Ytpifnlodilcgkaa
