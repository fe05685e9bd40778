/-
  The law gaolerlaw13.AttrOwners answers true for every input, and its arguments read behind the call as they read before it: the statement of the given row, without any condition of ours.
-/
import Derived.Test.YtkopeigfjjbajaaGreatZJ
import Derived.Test.YtkopeigfjjbajaaGreatB2
import Derived.Test.YtkopeigfjjbajaaGreatRows
set_option linter.unusedVariables false
namespace Go.Proofs.YtkopeigfjjbajaaGreat
open Go.ChangeShapes Go.WideShapes Go.ChangeAt Go.RowKit
open Abs

theorem attrOwners_args : OpAll Tryz.prog [3, 22, 25, 9, 3, 3, 4] [okInt, okRaws, okCred, okStr', okInt, okInt, okBool] := ⟨opensV_i64, opensV_raws, opensV_cred, opensV_st, opensV_i64, opensV_i64, opensV_bl, trivial⟩

theorem attrOwners_all (xs : List AVal) (h : AllR [okInt, okRaws, okCred, okStr', okInt, okInt, okBool] xs) :
    ACalls Tryz.prog 9 xs (fun _ => none) (fun r _ => r = .sc (.bool true)) := by
  obtain _ | ⟨x0, xs⟩ := xs
  · exact h.elim
  obtain _ | ⟨x1, xs⟩ := xs
  · exact h.2.elim
  obtain _ | ⟨x2, xs⟩ := xs
  · exact h.2.2.elim
  obtain _ | ⟨x3, xs⟩ := xs
  · exact h.2.2.2.elim
  obtain _ | ⟨x4, xs⟩ := xs
  · exact h.2.2.2.2.elim
  obtain _ | ⟨x5, xs⟩ := xs
  · exact h.2.2.2.2.2.elim
  obtain _ | ⟨x6, xs⟩ := xs
  · exact h.2.2.2.2.2.2.elim
  obtain _ | ⟨z, zs⟩ := xs
  case cons => exact h.2.2.2.2.2.2.2.elim
  obtain ⟨h0, h1, h2, h3, h4, h5, h6, _⟩ := h
  obtain ⟨room, rfl, hroom⟩ := h0
  obtain ⟨l, rfl, hl⟩ := h1
  obtain ⟨c, rfl, hc⟩ := h2
  obtain ⟨path, rfl, hpath⟩ := h3
  obtain ⟨uid, rfl, huid⟩ := h4
  obtain ⟨gid, rfl, hgid⟩ := h5
  obtain ⟨fo, rfl⟩ := h6
  exact attrOwners_c (room := room) (l := l) (c := c) (path := path) (uid := uid) (gid := gid) (fo := fo) (H := fun _ => none) (K := fun r _ => r = .sc (.bool true)) (Nat.le_trans hl (by decide)) rfl
set_option maxRecDepth 100000 in
theorem attrOwners_lifted (os : Os) (started : os.Started) (H : Type) (enc : TypeId × Value → H) :
    ReturnsInHanded {} Tryz.checked os 9 .any (Rows.attrOwnersSpec.pre6 enc Tryz.prog Tryz.f9 Rows.attrOwnersRow.domain false) (Rows.attrOwnersSpec.post enc Tryz.prog Tryz.f9 false true false false) := by
  refine returnsInHanded_of_change (C := Tryz.checked) Tryz.own started (by kernel_rfl) Tryz.func9
    (ChangeSpec.witness6 (enc := enc) (C := Tryz.checked) false ⟨#[], #[.int .i64 0, .slice none 0 0, .agg #[.int .i64 0, .int .i64 0, .slice none 0 0], .string ⟨#[]⟩, .int .i64 0, .int .i64 0, .bool false], []⟩ 8 (by kernel_rfl) (by kernel_rfl) (by kernel_rfl) (by kernel_rfl)) ?_
  intro W base args ds gs before hval hW _ _
  refine law_calls (ts := [3, 22, 25, 9, 3, 3, 4]) Tryz.laidOut (by kernel_rfl) (by kernel_rfl) Tryz.underlying4 rfl (fun H ds hl => ?_) (by kernel_rfl) attrOwners_args attrOwners_all W base args ds gs before hval hW
  match ds, hl with
  | [_, _, _, _, _, _, _], _ => rfl

theorem attrOwners_holds : Rows.AttrOwnersSaid :=
  OpenClaim.holds_of_wide 9 Tryz.f9 rfl rfl rfl rfl rfl rfl rfl ⟨rfl, rfl, rfl, rfl, rfl⟩ rfl rfl rfl rfl rfl (by kernel_rfl) Tryz.func9 (by kernel_rfl)
    (of_decide_eq_true (by kernel_rfl)) (by unfold Func.isWrapper; first | (rw [if_pos (by decide +kernel)]; kernel_rfl) | (rw [if_neg (by decide +kernel)]; exact ⟨rfl, rfl⟩))
    (fun os started H enc _ => attrOwners_lifted os started H enc)
end Go.Proofs.YtkopeigfjjbajaaGreat
