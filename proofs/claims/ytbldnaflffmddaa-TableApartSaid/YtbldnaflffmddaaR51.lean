/-
  The law gaolerlaw09.TableApart answers true for every input, and its arguments read behind the call as they read before it: the statement of the given row, without any condition of ours.
-/
import Derived.Test.YtbldnaflffmddaaKD
import Derived.Test.YtbldnaflffmddaaB0
import Derived.Test.YtbldnaflffmddaaRows
set_option linter.unusedVariables false
namespace Go.Proofs.Ytbldnaflffmddaa
open Go.ChangeShapes Go.WideShapes Go.ChangeAt Go.RowKit
open Abs

def okA09 (x : AVal) : Prop := ∃ l : List Ac, x = .sl (l.map encAc) .no ∧ l.length ≤ 9223372036854775807 ∧ ∀ a ∈ l, a.n.wf ∧ in64 a.i
def okU8X (x : AVal) : Prop := ∃ n : Int, x = .sc (.int .u8 n) ∧ 0 ≤ n ∧ n ≤ 255
theorem opensV_u8X : OpensV Try.prog 5 okU8X := (opensV_int Try.underlying5).mono (fun x ⟨n, e, h⟩ => ⟨n, e, by
  simp only [Lit.wf, Bool.and_eq_true, decide_eq_true_eq] at h
  exact h⟩)
theorem tableApart_args : OpAll Try.prog [70, 70, 5] [okA09, okA09, okU8X] := ⟨opens_acs, opens_acs, opensV_u8X, trivial⟩

theorem tableApart_all (xs : List AVal) (h : AllR [okA09, okA09, okU8X] xs) :
    ACalls Try.prog 8 xs (fun _ => none) (fun r _ => r = .sc (.bool true)) := by
  obtain _ | ⟨x0, xs⟩ := xs
  · exact h.elim
  obtain _ | ⟨x1, xs⟩ := xs
  · exact h.2.elim
  obtain _ | ⟨x2, xs⟩ := xs
  · exact h.2.2.elim
  obtain _ | ⟨z, zs⟩ := xs
  case cons => exact h.2.2.2.elim
  obtain ⟨h0, h1, h2, _⟩ := h
  obtain ⟨l, rfl, hl⟩ := h0
  obtain ⟨more, rfl, hmore⟩ := h1
  obtain ⟨i, rfl, hi⟩ := h2
  exact tableApart_c (l := l) (more := more) (i := i) (H := fun _ => none) (K := fun r _ => r = .sc (.bool true)) hl.1 (fun a ha => (hl.2 a ha).1.len) hmore.1 (fun a ha => (hmore.2 a ha).1.len) hi rfl
set_option maxRecDepth 100000 in
theorem tableApart_lifted (os : Os) (started : os.Started) (H : Type) (enc : TypeId × Value → H) :
    ReturnsInHanded {} Try.checked os 8 .any (Rows.tableApartSpec.pre6 enc Try.prog Try.f8 Rows.tableApartRow.domain false) (Rows.tableApartSpec.post enc Try.prog Try.f8 false true false false) := by
  refine returnsInHanded_of_change (C := Try.checked) Try.own started (by kernel_rfl) Try.func8
    (ChangeSpec.witness6 (enc := enc) (C := Try.checked) false ⟨#[], #[.slice none 0 0, .slice none 0 0, .int .u8 0], []⟩ 8 (by kernel_rfl) (by kernel_rfl) (by kernel_rfl) (by kernel_rfl)) ?_
  intro W base args ds gs before hval hW _ _
  refine law_calls (ts := [70, 70, 5]) Try.laidOut (by kernel_rfl) (by kernel_rfl) Try.underlying4 rfl (fun H ds hl => ?_) (by kernel_rfl) tableApart_args tableApart_all W base args ds gs before hval hW
  match ds, hl with
  | [_, _, _], _ => rfl

theorem tableApart_holds : Rows.TableApartSaid :=
  OpenClaim.holds_of_wide 8 Try.f8 rfl rfl rfl rfl rfl rfl rfl ⟨rfl, rfl, rfl, rfl, rfl⟩ rfl rfl rfl rfl rfl (by kernel_rfl) Try.func8 (by kernel_rfl)
    (of_decide_eq_true (by kernel_rfl)) (by unfold Func.isWrapper; first | (rw [if_pos (by decide +kernel)]; kernel_rfl) | (rw [if_neg (by decide +kernel)]; exact ⟨rfl, rfl⟩))
    (fun os started H enc _ => tableApart_lifted os started H enc)
end Go.Proofs.Ytbldnaflffmddaa
