/-
  The law gaolerlaw08.NodeFinds answers true for every input, and its arguments read behind the call as they read before it: the statement of the given row, without any condition of ours.
-/
import Derived.Test.YtmokoofibnoojaaM9
import Derived.Test.YtmokoofibnoojaaR0
import Derived.Test.YtmokoofibnoojaaRows
set_option linter.unusedVariables false
namespace Go.Proofs.Ytmokoofibnoojaa
open Go.ChangeShapes Go.WideShapes Go.ChangeAt Go.RowKit
open Abs

def okNode (x : AVal) : Prop := ∃ n : Abs.Node, x = .agg (encNode n) ∧ n.wf
def okStr (x : AVal) : Prop := ∃ s : ByteArray, x = .sc (.string s) ∧ s.size ≤ maxLen
theorem nodeFinds_args : OpAll Try.prog [51, 9] [okNode, okStr] := ⟨opensV_node, opensV_string Try.underlying9, trivial⟩

theorem nodeFinds_all (xs : List AVal) (h : AllR [okNode, okStr] xs) :
    ACalls Try.prog 13 xs (fun _ => none) (fun r _ => r = .sc (.bool true)) := by
  obtain _ | ⟨x0, xs⟩ := xs
  · exact h.elim
  obtain _ | ⟨x1, xs⟩ := xs
  · exact h.2.elim
  obtain _ | ⟨z, zs⟩ := xs
  case cons => exact h.2.2.elim
  obtain ⟨h0, h1, _⟩ := h
  obtain ⟨n, rfl, hn⟩ := h0
  obtain ⟨s, rfl, hs⟩ := h1
  exact nodeFinds_c (n := n) (name := s) (H := fun _ => none) (K := fun r _ => r = .sc (.bool true)) hn.len rfl
set_option maxRecDepth 100000 in
theorem nodeFinds_lifted (os : Os) (started : os.Started) (H : Type) (enc : TypeId × Value → H) :
    ReturnsInHanded {} Try.checked os 13 .any (Rows.nodeFindsSpec.pre6 enc Try.prog Try.f13 Rows.nodeFindsRow.domain false) (Rows.nodeFindsSpec.post enc Try.prog Try.f13 false true false false) := by
  refine returnsInHanded_of_change (C := Try.checked) Try.own started (by kernel_rfl) Try.func13
    (ChangeSpec.witness6 (enc := enc) (C := Try.checked) false ⟨#[], #[.agg #[.int .i64 0, .int .i64 0, .int .i64 0, .int .i64 0, .slice none 0 0, .slice none 0 0, .string ⟨#[]⟩], .string ⟨#[]⟩], []⟩ 8 (by kernel_rfl) (by kernel_rfl) (by kernel_rfl) (by kernel_rfl)) ?_
  intro W base args ds gs before hval hW _ _
  refine law_calls (ts := [51, 9]) Try.laidOut (by kernel_rfl) (by kernel_rfl) Try.underlying4 rfl (fun H ds hl => ?_) (by kernel_rfl) nodeFinds_args nodeFinds_all W base args ds gs before hval hW
  match ds, hl with
  | [_, _], _ => rfl

theorem nodeFinds_holds : Rows.NodeFindsSaid :=
  OpenClaim.holds_of_wide 13 Try.f13 rfl rfl rfl rfl rfl rfl rfl ⟨rfl, rfl, rfl, rfl, rfl⟩ rfl rfl rfl rfl rfl (by kernel_rfl) Try.func13 (by kernel_rfl)
    (of_decide_eq_true (by kernel_rfl)) (by unfold Func.isWrapper; first | (rw [if_pos (by decide +kernel)]; kernel_rfl) | (rw [if_neg (by decide +kernel)]; exact ⟨rfl, rfl⟩))
    (fun os started H enc _ => nodeFinds_lifted os started H enc)
end Go.Proofs.Ytmokoofibnoojaa
