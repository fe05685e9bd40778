import Derived.Test.YtbldnaflffmddaaV1
import Derived.Test.YtbldnaflffmddaaQ1
set_option linter.unusedVariables false
namespace Go.Proofs.Ytbldnaflffmddaa
namespace Abs
set_option linter.unusedSimpArgs false
set_option maxRecDepth 10000
set_option maxHeartbeats 2000000
attribute [local irreducible] AOps AW AP ACalls thenQ inBlk noGoto

/-! ### two slices that grow beside a heap that stays -/
structure Own2 (X Y : AHeap) (o1 o2 : Own) : Prop where
  own1 : Owned Y o1
  own2 : Owned Y o2
  ne : ∀ b, tokB o1 = some b → tokB o2 ≠ some b
  old : ∀ x, X x ≠ none → Y x = X x ∧ tokB o1 ≠ some x ∧ tokB o2 ≠ some x
theorem Own2.swap {X Y : AHeap} {o1 o2 : Own} (h : Own2 X Y o1 o2) : Own2 X Y o2 o1 := ⟨h.own2, h.own1, fun b hb e => h.ne b e hb, fun x hx => ⟨(h.old x hx).1, (h.old x hx).2.2, (h.old x hx).2.1⟩⟩
theorem Own2.sub {X Y : AHeap} {o1 o2 : Own} (h : Own2 X Y o1 o2) : X.sub Y := fun x p hx => ⟨p, by rw [(h.old x (by rw [hx]; simp)).1]; exact hx, .refl p⟩
theorem Own2.get {X Y : AHeap} {o1 o2 : Own} (h : Own2 X Y o1 o2) {x : Nat} {p : HObj} (hx : X x = some p) : Y x = some p := by rw [(h.old x (by rw [hx]; simp)).1]; exact hx
theorem Own2.full (X : AHeap) : Own2 X X .full .full := ⟨trivial, trivial, (by intro b e; cases e), fun x _ => ⟨rfl, (by intro e; cases e), (by intro e; cases e)⟩⟩
theorem Own2.step {X Y : AHeap} {o1 o2 o' : Own} (h : Own2 X Y o1 o2) (ha : Apart (Y.free o1) o') : Own2 X ((Y.free o1).own o') o' o2 := by
  have hold : ∀ x p, Y x = some p → tokB o1 ≠ some x → ((Y.free o1).own o') x = Y x ∧ tokB o' ≠ some x := fun x p hY h2 => by
    have h3 := apart_ne ha hY h2
    exact ⟨free_own_get h2 h3, h3⟩
  refine ⟨owned_new ha, owned_get h.own2 fun b hb => ?_, fun b hb hb2 => ?_, fun x hx => ?_⟩
  · cases hYb : Y b with
    | none => exact absurd hYb (owned_some h.own2 hb)
    | some p => rw [(hold b p hYb (fun e => h.ne b e hb)).1, hYb]
  · cases hYb : Y b with
    | none => exact absurd hYb (owned_some h.own2 hb2)
    | some p => exact (hold b p hYb (fun e => h.ne b e hb2)).2 hb
  · obtain ⟨h1, h2, h3⟩ := h.old x hx
    cases hX : X x with
    | none => exact absurd hX hx
    | some p =>
      obtain ⟨h4, h5⟩ := hold x p (by rw [h1, hX]) h2
      exact ⟨by rw [h4, h1, hX], h5, h3⟩
/-! ### the document's With and Without -/
end Abs
end Go.Proofs.Ytbldnaflffmddaa

set_option linter.unusedVariables false
namespace Go.Proofs.Ytbldnaflffmddaa
namespace Abs
set_option linter.unusedSimpArgs false
set_option maxRecDepth 10000
set_option maxHeartbeats 2000000
attribute [local irreducible] AOps AW AP ACalls thenQ inBlk noGoto

/-! ### the document's Without -/
/-! ### lists of texts -/
end Abs
end Go.Proofs.Ytbldnaflffmddaa

set_option linter.unusedVariables false
namespace Go.Proofs.Ytbldnaflffmddaa
namespace Abs
set_option linter.unusedSimpArgs false
set_option maxRecDepth 10000
set_option maxHeartbeats 2000000
attribute [local irreducible] AOps AW AP ACalls thenQ inBlk noGoto

/-! ### node.Names -/
structure RowSt (X Y : AHeap) (l : List AVal) (b cap : Nat) (cs : List AVal) : Prop where
  old : ∀ x, X x ≠ none → Y x = X x ∧ (l ≠ [] → x ≠ b)
  row : l ≠ [] → Y b = some (.cells cs)
  head : l ≠ [] → cs.take l.length = l
  len : l ≠ [] → cs.length = cap
  cap : l ≠ [] → l.length ≤ cap
theorem RowSt.get {X Y : AHeap} {l cs : List AVal} {b cap x : Nat} {p : HObj} (h : RowSt X Y l b cap cs) (hx : X x = some p) : Y x = some p := by rw [(h.old x (by rw [hx]; simp)).1]; exact hx
theorem RowSt.sub {X Y : AHeap} {l cs : List AVal} {b cap : Nat} (h : RowSt X Y l b cap cs) : X.sub Y := fun x p hx => ⟨p, h.get hx, .refl p⟩
theorem RowSt.none {X : AHeap} : RowSt X X [] 0 0 [] := ⟨fun x _ => ⟨rfl, fun h => absurd rfl h⟩, fun h => absurd rfl h, fun h => absurd rfl h, fun h => absurd rfl h, fun h => absurd rfl h⟩
theorem RowSt.del {X Y : AHeap} {l cs : List AVal} {b cap : Nat} (h : RowSt X Y l b cap cs) (hl : l ≠ []) : X.sub (Y.del b) := fun x p hx => by
  obtain ⟨h1, h2⟩ := h.old x (by rw [hx]; simp)
  refine ⟨p, ?_, .refl p⟩
  unfold AHeap.del
  rw [if_neg (h2 hl), h1, hx]
theorem RowSt.put {X Y : AHeap} {l cs : List AVal} {b cap c : Nat} (h : RowSt X Y l b cap cs) (hc : Y c = Option.none) (o : HObj) : RowSt X (Y.put c o) l b cap cs := ⟨fun x hx => by
    obtain ⟨h1, h2⟩ := h.old x hx
    exact ⟨by rw [put_ne (fun e => by rw [e] at h1 hx; rw [hc] at h1; exact hx h1.symm), h1], h2⟩, fun hl => by
    have h1 := h.row hl
    rw [put_ne (fun e => by rw [e, hc] at h1; cases h1), h1], h.head, h.len, h.cap⟩
theorem RowSt.first {X Z : AHeap} {b0 cap0 b cap : Nat} {cs0 l cs : List AVal} (h : RowSt X Z [] b0 cap0 cs0) (hb : Z b = Option.none) (h1 : cs.take l.length = l) (h2 : cs.length = cap) (h3 : l.length ≤ cap) : RowSt X (Z.put b (.cells cs)) l b cap cs :=
  ⟨fun x hx => by
    have e := (h.old x hx).1
    have hne : x ≠ b := fun e2 => by rw [e2] at e hx; rw [hb] at e; exact hx e.symm
    exact ⟨by rw [put_ne hne, e], fun _ => hne⟩, fun _ => put_same _ _ _, fun _ => h1, fun _ => h2, fun _ => h3⟩
theorem RowSt.next {X Z : AHeap} {b0 cap0 b cap : Nat} {l0 cs0 l cs : List AVal} (h : RowSt X Z l0 b0 cap0 cs0) (hl : l0 ≠ []) (hb : b = b0 ∨ Z b = Option.none) (h1 : cs.take l.length = l) (h2 : cs.length = cap) (h3 : l.length ≤ cap) : RowSt X ((Z.del b0).put b (.cells cs)) l b cap cs :=
  ⟨fun x hx => by
    obtain ⟨e, e0⟩ := h.old x hx
    have hne : x ≠ b := fun e2 => by
      rcases hb with hb | hb
      · exact e0 hl (e2.trans hb)
      · rw [e2] at e hx; rw [hb] at e; exact hx e.symm
    refine ⟨?_, fun _ => hne⟩
    rw [put_ne hne]
    unfold AHeap.del
    rw [if_neg (e0 hl), e], fun _ => put_same _ _ _, fun _ => h1, fun _ => h2, fun _ => h3⟩
end Abs
end Go.Proofs.Ytbldnaflffmddaa

set_option linter.unusedVariables false
namespace Go.Proofs.Ytbldnaflffmddaa
namespace Abs
set_option linter.unusedSimpArgs false
set_option maxRecDepth 10000
set_option maxHeartbeats 2000000
attribute [local irreducible] AOps AW AP ACalls thenQ inBlk noGoto

/-! ### the document's Sorted -/
end Abs
end Go.Proofs.Ytbldnaflffmddaa
