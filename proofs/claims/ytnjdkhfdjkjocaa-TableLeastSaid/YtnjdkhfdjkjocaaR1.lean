/-
  The law gaolerlaw09.TableLeast answers true for every input, and its arguments read behind the call as they read before it: the statement of the given row, without any condition of ours.
-/
import Derived.Test.YtnjdkhfdjkjocaaL4
import Derived.Test.YtnjdkhfdjkjocaaR0
import Derived.Test.YtnjdkhfdjkjocaaRows
set_option linter.unusedVariables false
namespace Go.Proofs.Ytnjdkhfdjkjocaa
open Go.ChangeShapes Go.WideShapes Go.ChangeAt Go.RowKit
open Abs

theorem tableLeast_args : OpAll Try.prog [5, 22] [fun x => ∃ n, x = .sc (.int .u8 n) ∧ (Lit.int .u8 n).wf = true, fun x => ∃ l : List Ac, x = .sl (l.map encAc) .no ∧ l.length ≤ 9223372036854775807 ∧ ∀ a ∈ l, a.n.wf ∧ in64 a.i] :=
  ⟨opensV_int Try.underlying5, opens_acs, trivial⟩
theorem tableLeast_all : ∀ xs, AllR [fun x => ∃ n, x = .sc (.int .u8 n) ∧ (Lit.int .u8 n).wf = true, fun x => ∃ l : List Ac, x = .sl (l.map encAc) .no ∧ l.length ≤ 9223372036854775807 ∧ ∀ a ∈ l, a.n.wf ∧ in64 a.i] xs →
    ACalls Try.prog 3 xs (fun _ => none) (fun r _ => r = .sc (.bool true))
  | [_, _], ⟨⟨n, rfl, hn⟩, ⟨l, rfl, hl, hw⟩, _⟩ => by
    have := u8_of hn
    have h := tableLeast_c (room := n.toNat) (l := l) (o := .no) (H := fun _ => none) (K := fun r _ => r = .sc (.bool true)) (by omega) hl (fun a ha => (hw a ha).1.len) rfl
    rw [show ((n.toNat : Nat) : Int) = n by omega] at h
    exact h

set_option maxRecDepth 100000 in
theorem tableLeast_lifted (os : Os) (started : os.Started) (H : Type) (enc : TypeId × Value → H) :
    ReturnsInHanded {} Try.checked os 3 .any (Rows.tableLeastSpec.pre6 enc Try.prog Try.f3 Rows.tableLeastRow.domain false) (Rows.tableLeastSpec.post enc Try.prog Try.f3 false true false false) := by
  refine returnsInHanded_of_change (C := Try.checked) Try.own started (by kernel_rfl) Try.func3
    (ChangeSpec.witness6 (enc := enc) (C := Try.checked) false ⟨#[], #[.int .u8 0, .slice none 0 0], []⟩ 8 (by kernel_rfl) (by kernel_rfl) (by kernel_rfl) (by kernel_rfl)) ?_
  intro W base args ds gs before hval hW _ _
  refine law_calls (ts := [5, 22]) Try.laidOut (by kernel_rfl) (by kernel_rfl) Try.underlying4 rfl (fun H ds hl => ?_) (by kernel_rfl) tableLeast_args tableLeast_all W base args ds gs before hval hW
  match ds, hl with
  | [_, _], _ => rfl

theorem tableLeast_holds : Rows.TableLeastSaid :=
  OpenClaim.holds_of_wide 3 Try.f3 rfl rfl rfl rfl rfl rfl rfl ⟨rfl, rfl, rfl, rfl, rfl⟩ rfl rfl rfl rfl rfl (by kernel_rfl) Try.func3 (by kernel_rfl)
    (of_decide_eq_true (by kernel_rfl)) (by unfold Func.isWrapper; first | (rw [if_pos (by decide +kernel)]; kernel_rfl) | (rw [if_neg (by decide +kernel)]; exact ⟨rfl, rfl⟩))
    (fun os started H enc _ => tableLeast_lifted os started H enc)
end Go.Proofs.Ytnjdkhfdjkjocaa
