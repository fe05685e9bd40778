import Derived.Test.YtbldnaflffmddaaQ10
import Derived.Test.YtbldnaflffmddaaA10
import Derived.Test.YtbldnaflffmddaaP0
import Derived.Test.YtbldnaflffmddaaN1
set_option linter.unusedVariables false
namespace Go.Proofs.Ytbldnaflffmddaa
namespace Abs
set_option linter.unusedSimpArgs false
set_option maxRecDepth 10000
set_option maxHeartbeats 2000000
attribute [local irreducible] AOps AW AP ACalls thenQ inBlk noGoto

/-! ### package node: places -/
def Node.place (n : Node) (name : ByteArray) : Option Nat := n.ents.findIdx? fun e => decide (e.name = name)
def Node.find (n : Node) (name : ByteArray) : Int := match n.place name with
  | some k => (n.ents.getD k ⟨⟨#[]⟩, 0⟩).node
  | none => 0
/-! ### sizes -/
def Node.size (n : Node) : Int := if n.kind = 1 then n.data.size else if n.kind = 2 then n.ents.length else if n.kind = 3 then n.target.size else 0
end Abs
end Go.Proofs.Ytbldnaflffmddaa

set_option linter.unusedVariables false
namespace Go.Proofs.Ytbldnaflffmddaa
namespace Abs
set_option linter.unusedSimpArgs false
set_option maxRecDepth 10000
set_option maxHeartbeats 2000000
attribute [local irreducible] AOps AW AP ACalls thenQ inBlk noGoto

/-! ### a slice of the call's own that grows beside a heap that stays -/
structure OwnSt (X Y : AHeap) (o : Own) : Prop where
  own : Owned Y o
  old : ∀ x, X x ≠ none → Y x = X x ∧ tokB o ≠ some x
theorem OwnSt.sub {X Y : AHeap} {o : Own} (h : OwnSt X Y o) : X.sub Y := fun x p hx => ⟨p, by rw [(h.old x (by rw [hx]; simp)).1]; exact hx, .refl p⟩
theorem OwnSt.get {X Y : AHeap} {o : Own} (h : OwnSt X Y o) {x : Nat} {p : HObj} (hx : X x = some p) : Y x = some p := by rw [(h.old x (by rw [hx]; simp)).1]; exact hx
theorem OwnSt.step {X Y : AHeap} {o o' : Own} (h : OwnSt X Y o) (ha : Apart (Y.free o) o') : OwnSt X ((Y.free o).own o') o' := ⟨owned_new ha, fun x hx => by
  obtain ⟨h1, h2⟩ := h.old x hx
  cases hX : X x with
  | none => exact absurd hX hx
  | some p =>
    have hY : Y x = some p := by rw [h1, hX]
    have h3 := apart_ne ha hY h2
    exact ⟨by rw [free_own_get h2 h3, hY], h3⟩⟩
theorem OwnSt.full (X : AHeap) : OwnSt X X .full := ⟨trivial, fun x _ => ⟨rfl, by intro e; cases e⟩⟩
theorem OwnSt.grow {X Y : AHeap} {b e es : Nat} (hb : X b = none) (hY : ∀ x, x ≠ b → Y x = X x) : OwnSt X (Y.put b (.grow e)) (.tok b e es) := ⟨put_same _ _ _, fun x hx => by
  have hne : x ≠ b := fun e => hx (by rw [e]; exact hb)
  exact ⟨by rw [put_ne hne, hY x hne], fun e => by cases e; exact hne rfl⟩⟩
/-! ### node.with: entries ahead of one place, some, and those from another one on -/
def Node.cut (n : Node) (at_ from_ : Nat) (more : List Ent) : Node := { n with ents := n.ents.take at_ ++ more ++ n.ents.drop from_ }
end Abs
end Go.Proofs.Ytbldnaflffmddaa

set_option linter.unusedVariables false
namespace Go.Proofs.Ytbldnaflffmddaa
namespace Abs
set_option linter.unusedSimpArgs false
set_option maxRecDepth 10000
set_option maxHeartbeats 2000000
attribute [local irreducible] AOps AW AP ACalls thenQ inBlk noGoto

/-! ### node.With, node.Without -/
def gtB (name : ByteArray) (e : Ent) : Bool := !(Op.bytesLess e.name.toList name.toList || decide (e.name = name))
def Node.spot (n : Node) (name : ByteArray) : Nat := (n.ents.findIdx? (gtB name)).getD n.ents.length
end Abs
end Go.Proofs.Ytbldnaflffmddaa
