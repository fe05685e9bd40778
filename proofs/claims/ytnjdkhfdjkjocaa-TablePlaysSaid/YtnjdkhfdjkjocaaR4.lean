/-
  The law gaolerlaw09.TablePlays answers true for every input, and its arguments read behind the call as they read before it: the statement of the given row, without any condition of ours.
-/
import Derived.Test.YtnjdkhfdjkjocaaL11
import Derived.Test.YtnjdkhfdjkjocaaR0
import Derived.Test.YtnjdkhfdjkjocaaRows
set_option linter.unusedVariables false
namespace Go.Proofs.Ytnjdkhfdjkjocaa
open Go.ChangeShapes Go.WideShapes Go.ChangeAt Go.RowKit
open Abs

def okAcs (x : AVal) : Prop := ∃ l : List Ac, x = .sl (l.map encAc) .no ∧ l.length ≤ 9223372036854775807 ∧ ∀ a ∈ l, a.n.wf ∧ in64 a.i
def okInt (x : AVal) : Prop := ∃ n, x = .sc (.int .i64 n) ∧ in64 n
theorem opensI : OpensV Try.prog 3 okInt := (opensV_int (k := .i64) Try.underlying3).mono fun x h => by
  obtain ⟨n, e, h⟩ := h
  exact ⟨n, e, in64_of h⟩
theorem tablePlays_args : OpAll Try.prog [3, 22] [okInt, okAcs] := ⟨opensI, opens_acs, trivial⟩

theorem tablePlays_all (xs : List AVal) (h : AllR [okInt, okAcs] xs) :
    ACalls Try.prog 6 xs (fun _ => none) (fun r _ => r = .sc (.bool true)) := by
  obtain _ | ⟨x0, xs⟩ := xs
  · exact h.elim
  obtain _ | ⟨x1, xs⟩ := xs
  · exact h.2.elim
  obtain _ | ⟨z, zs⟩ := xs
  case cons => exact h.2.2.elim
  obtain ⟨h0, h1, _⟩ := h
  obtain ⟨n, rfl, hn⟩ := h0
  obtain ⟨l, rfl, hl, hw⟩ := h1
  exact tablePlays_c (room := n) (l := l) (o := .no) (H := fun _ => none) (K := fun r _ => r = .sc (.bool true)) hl (fun a ha => (hw a ha).1.len) rfl
set_option maxRecDepth 100000 in
theorem tablePlays_lifted (os : Os) (started : os.Started) (H : Type) (enc : TypeId × Value → H) :
    ReturnsInHanded {} Try.checked os 6 .any (Rows.tablePlaysSpec.pre6 enc Try.prog Try.f6 Rows.tablePlaysRow.domain false) (Rows.tablePlaysSpec.post enc Try.prog Try.f6 false true false false) := by
  refine returnsInHanded_of_change (C := Try.checked) Try.own started (by kernel_rfl) Try.func6
    (ChangeSpec.witness6 (enc := enc) (C := Try.checked) false ⟨#[], #[.int .i64 0, .slice none 0 0], []⟩ 8 (by kernel_rfl) (by kernel_rfl) (by kernel_rfl) (by kernel_rfl)) ?_
  intro W base args ds gs before hval hW _ _
  refine law_calls (ts := [3, 22]) Try.laidOut (by kernel_rfl) (by kernel_rfl) Try.underlying4 rfl (fun H ds hl => ?_) (by kernel_rfl) tablePlays_args tablePlays_all W base args ds gs before hval hW
  match ds, hl with
  | [_, _], _ => rfl

theorem tablePlays_holds : Rows.TablePlaysSaid :=
  OpenClaim.holds_of_wide 6 Try.f6 rfl rfl rfl rfl rfl rfl rfl ⟨rfl, rfl, rfl, rfl, rfl⟩ rfl rfl rfl rfl rfl (by kernel_rfl) Try.func6 (by kernel_rfl)
    (of_decide_eq_true (by kernel_rfl)) (by unfold Func.isWrapper; first | (rw [if_pos (by decide +kernel)]; kernel_rfl) | (rw [if_neg (by decide +kernel)]; exact ⟨rfl, rfl⟩))
    (fun os started H enc _ => tablePlays_lifted os started H enc)
end Go.Proofs.Ytnjdkhfdjkjocaa
