import Derived.Test.YtbldnaflffmddaaQ4
import Derived.Test.YtbldnaflffmddaaA10
set_option linter.unusedVariables false
namespace Go.Proofs.Ytbldnaflffmddaa
namespace Abs
set_option maxRecDepth 10000
attribute [local irreducible] AOps AW AP ACalls thenQ inBlk noGoto

end Abs
end Go.Proofs.Ytbldnaflffmddaa

set_option linter.unusedVariables false
namespace Go.Proofs.Ytbldnaflffmddaa
namespace Abs
set_option maxRecDepth 10000
attribute [local irreducible] AOps AW AP ACalls thenQ inBlk noGoto

/-! ### a slice of the call's own that grows -/
def tokB : Own → Option Nat
  | .tok b _ _ => some b
  | _ => none
/-- The heap behind an append: nothing but the old and the new token's block has turned. -/
theorem free_own_get {H : AHeap} {o o' : Own} {x : Nat} (h1 : tokB o ≠ some x) (h2 : tokB o' ≠ some x) : ((H.free o).own o') x = H x := by
  have hf : (H.free o) x = H x := by
    cases o with
    | no => rfl
    | full => rfl
    | tok b e s =>
      have : x ≠ b := fun e => h1 (by rw [e]; rfl)
      simp [AHeap.free, AHeap.del, this]
  cases o' with
  | no => exact hf
  | full => exact hf
  | tok b e s =>
    have : x ≠ b := fun e => h2 (by rw [e]; rfl)
    show (AHeap.put _ _ _) x = _
    rw [put_ne this, hf]
theorem owned_new {H : AHeap} {o o' : Own} (h : Apart (H.free o) o') : Owned ((H.free o).own o') o' := by
  cases o' with
  | no => exact h.elim
  | full => trivial
  | tok b e s => exact put_same _ _ _
theorem apart_ne {H : AHeap} {o o' : Own} (h : Apart (H.free o) o') {x : Nat} {p : HObj} (hx : H x = some p) (hn : tokB o ≠ some x) : tokB o' ≠ some x := fun e => by
  cases o' with
  | no => cases e
  | full => cases e
  | tok b e0 s =>
    cases e
    have : (H.free o) x = H x := by
      cases o with
      | no => rfl
      | full => rfl
      | tok b e s =>
        have : x ≠ b := fun e => hn (by rw [e]; rfl)
        simp [AHeap.free, AHeap.del, this]
    have h' : (H.free o) x = none := h
    rw [this, hx] at h'
    cases h'
end Abs
end Go.Proofs.Ytbldnaflffmddaa

set_option linter.unusedVariables false
namespace Go.Proofs.Ytbldnaflffmddaa
namespace Abs
set_option maxRecDepth 10000
attribute [local irreducible] AOps AW AP ACalls thenQ inBlk noGoto

/-! ### a node as the document has it -/
def midM (n : Node) (k j : Nat) (o1 o2 : Own) : List AVal := [.i n.kind, .i n.mode, .i n.uid, .i n.gid, .s n.data, .sl (encNames (n.ents.take k)) o1, .sl (encKids (n.ents.take j)) o2, .s n.target]
structure MSt (n : Node) (b1 b2 b3 : Nat) (z : List AVal) (H : AHeap) (k j : Nat) (o1 o2 : Own) (Y : AHeap) : Prop where
  node : Rd Y b1 (encNode n)
  res : Y b2 = some (.cells z)
  mid : Y b3 = some (.cells (midM n k j o1 o2))
  own1 : Owned Y o1
  own2 : Owned Y o2
  es1 : ownEs 1 o1
  es2 : ownEs 1 o2
  ne : ∀ b, tokB o1 = some b → tokB o2 ≠ some b
  new1 : ∀ b, tokB o1 = some b → H b = none ∧ b ≠ b1 ∧ b ≠ b2 ∧ b ≠ b3
  new2 : ∀ b, tokB o2 = some b → H b = none ∧ b ≠ b1 ∧ b ≠ b2 ∧ b ≠ b3
  sub : ∀ x, H x ≠ none → Y x = H x
/-- A heap in which some blocks read as in another one. -/
theorem back_in {Z Y : AHeap} {bs : List Nat} {b : Nat} (h : b ∈ bs) : Z.back Y bs b = Y b := by simp [AHeap.back, h]
theorem back_out {Z Y : AHeap} {bs : List Nat} {b : Nat} (h : b ∉ bs) : Z.back Y bs b = Z b := by simp [AHeap.back, h]
theorem owned_get {H H' : AHeap} {o : Own} (h : Owned H o) (e : ∀ b, tokB o = some b → H' b = H b) : Owned H' o := by
  cases o with
  | no => exact h
  | full => trivial
  | tok b x s => show H' b = _; rw [e b rfl]; exact h
theorem owned_some {H : AHeap} {o : Own} {b : Nat} (h : Owned H o) (hb : tokB o = some b) : H b ≠ none := by
  cases o with
  | no => exact h.elim
  | full => cases hb
  | tok c x s => cases hb; rw [show H b = _ from h]; simp
theorem uni_one1 (v : AVal) : Uni 1 [[v]] := fun x hx => by
  rw [List.mem_singleton.1 hx]; rfl
end Abs
end Go.Proofs.Ytbldnaflffmddaa

set_option linter.unusedVariables false
namespace Go.Proofs.Ytbldnaflffmddaa
namespace Abs
set_option maxRecDepth 10000
attribute [local irreducible] AOps AW AP ACalls thenQ inBlk noGoto

end Abs
end Go.Proofs.Ytbldnaflffmddaa
