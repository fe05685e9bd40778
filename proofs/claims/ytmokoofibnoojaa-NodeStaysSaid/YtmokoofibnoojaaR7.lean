/-
  The law gaolerlaw08.NodeStays answers true for every input, and its arguments read behind the call as they read before it: the statement of the given row, without any condition of ours.
-/
import Derived.Test.YtmokoofibnoojaaM7
import Derived.Test.YtmokoofibnoojaaR0
import Derived.Test.YtmokoofibnoojaaRows
set_option linter.unusedVariables false
namespace Go.Proofs.Ytmokoofibnoojaa
open Go.ChangeShapes Go.WideShapes Go.ChangeAt Go.RowKit
open Abs

def okNode (x : AVal) : Prop := ∃ n : Abs.Node, x = .agg (encNode n) ∧ n.wf
def okStr (x : AVal) : Prop := ∃ s : ByteArray, x = .sc (.string s) ∧ s.size ≤ maxLen
def okInt (x : AVal) : Prop := ∃ n, x = .sc (.int .i64 n) ∧ in64 n
theorem opensI : OpensV Try.prog 3 okInt := (opensV_int (k := .i64) Try.underlying3).mono fun x h => by
  obtain ⟨n, e, h⟩ := h
  exact ⟨n, e, in64_of h⟩
theorem nodeStays_args : OpAll Try.prog [51, 9, 3] [okNode, okStr, okInt] := ⟨opensV_node, opensV_string Try.underlying9, opensI, trivial⟩

theorem nodeStays_all (xs : List AVal) (h : AllR [okNode, okStr, okInt] xs) :
    ACalls Try.prog 11 xs (fun _ => none) (fun r _ => r = .sc (.bool true)) := by
  obtain _ | ⟨x0, xs⟩ := xs
  · exact h.elim
  obtain _ | ⟨x1, xs⟩ := xs
  · exact h.2.elim
  obtain _ | ⟨x2, xs⟩ := xs
  · exact h.2.2.elim
  obtain _ | ⟨z, zs⟩ := xs
  case cons => exact h.2.2.2.elim
  obtain ⟨h0, h1, h2, _⟩ := h
  obtain ⟨n, rfl, hn⟩ := h0
  obtain ⟨s, rfl, hs⟩ := h1
  obtain ⟨i, rfl, hi⟩ := h2
  exact nodeStays_c (n := n) (name := s) (id := i) (H := fun _ => none) (K := fun r _ => r = .sc (.bool true)) hn.len rfl
set_option maxRecDepth 100000 in
theorem nodeStays_lifted (os : Os) (started : os.Started) (H : Type) (enc : TypeId × Value → H) :
    ReturnsInHanded {} Try.checked os 11 .any (Rows.nodeStaysSpec.pre6 enc Try.prog Try.f11 Rows.nodeStaysRow.domain false) (Rows.nodeStaysSpec.post enc Try.prog Try.f11 false true false false) := by
  refine returnsInHanded_of_change (C := Try.checked) Try.own started (by kernel_rfl) Try.func11
    (ChangeSpec.witness6 (enc := enc) (C := Try.checked) false ⟨#[], #[.agg #[.int .i64 0, .int .i64 0, .int .i64 0, .int .i64 0, .slice none 0 0, .slice none 0 0, .string ⟨#[]⟩], .string ⟨#[]⟩, .int .i64 0], []⟩ 8 (by kernel_rfl) (by kernel_rfl) (by kernel_rfl) (by kernel_rfl)) ?_
  intro W base args ds gs before hval hW _ _
  refine law_calls (ts := [51, 9, 3]) Try.laidOut (by kernel_rfl) (by kernel_rfl) Try.underlying4 rfl (fun H ds hl => ?_) (by kernel_rfl) nodeStays_args nodeStays_all W base args ds gs before hval hW
  match ds, hl with
  | [_, _, _], _ => rfl

theorem nodeStays_holds : Rows.NodeStaysSaid :=
  OpenClaim.holds_of_wide 11 Try.f11 rfl rfl rfl rfl rfl rfl rfl ⟨rfl, rfl, rfl, rfl, rfl⟩ rfl rfl rfl rfl rfl (by kernel_rfl) Try.func11 (by kernel_rfl)
    (of_decide_eq_true (by kernel_rfl)) (by unfold Func.isWrapper; first | (rw [if_pos (by decide +kernel)]; kernel_rfl) | (rw [if_neg (by decide +kernel)]; exact ⟨rfl, rfl⟩))
    (fun os started H enc _ => nodeStays_lifted os started H enc)
end Go.Proofs.Ytmokoofibnoojaa
