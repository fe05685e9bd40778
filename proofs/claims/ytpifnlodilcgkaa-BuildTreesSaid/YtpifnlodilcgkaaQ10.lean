import Derived.Test.YtpifnlodilcgkaaQ4
import Derived.Test.YtpifnlodilcgkaaA10
set_option linter.unusedVariables false
namespace Go.Proofs.Ytpifnlodilcgkaa
namespace Abs
set_option maxRecDepth 10000
attribute [local irreducible] AOps AW AP ACalls thenQ inBlk noGoto

end Abs
end Go.Proofs.Ytpifnlodilcgkaa

set_option linter.unusedVariables false
namespace Go.Proofs.Ytpifnlodilcgkaa
namespace Abs
set_option maxRecDepth 10000
attribute [local irreducible] AOps AW AP ACalls thenQ inBlk noGoto

/-! ### a slice of the call's own that grows -/
def tokB : Own → Option Nat
  | .tok b _ _ => some b
  | _ => none
/-- The heap behind an append: nothing but the old and the new token's block has turned. -/
theorem free_own_get {H : AHeap} {o o' : Own} {x : Nat} (h1 : tokB o ≠ some x) (h2 : tokB o' ≠ some x) : ((H.free o).own o') x = H x := by
  have hf : (H.free o) x = H x := by
    cases o with
    | no => rfl
    | full => rfl
    | tok b e s =>
      have : x ≠ b := fun e => h1 (by rw [e]; rfl)
      simp [AHeap.free, AHeap.del, this]
  cases o' with
  | no => exact hf
  | full => exact hf
  | tok b e s =>
    have : x ≠ b := fun e => h2 (by rw [e]; rfl)
    show (AHeap.put _ _ _) x = _
    rw [put_ne this, hf]
theorem owned_new {H : AHeap} {o o' : Own} (h : Apart (H.free o) o') : Owned ((H.free o).own o') o' := by
  cases o' with
  | no => exact h.elim
  | full => trivial
  | tok b e s => exact put_same _ _ _
theorem apart_ne {H : AHeap} {o o' : Own} (h : Apart (H.free o) o') {x : Nat} {p : HObj} (hx : H x = some p) (hn : tokB o ≠ some x) : tokB o' ≠ some x := fun e => by
  cases o' with
  | no => cases e
  | full => cases e
  | tok b e0 s =>
    cases e
    have : (H.free o) x = H x := by
      cases o with
      | no => rfl
      | full => rfl
      | tok b e s =>
        have : x ≠ b := fun e => hn (by rw [e]; rfl)
        simp [AHeap.free, AHeap.del, this]
    have h' : (H.free o) x = none := h
    rw [this, hx] at h'
    cases h'
end Abs
end Go.Proofs.Ytpifnlodilcgkaa

set_option linter.unusedVariables false
namespace Go.Proofs.Ytpifnlodilcgkaa
namespace Abs
set_option maxRecDepth 10000
attribute [local irreducible] AOps AW AP ACalls thenQ inBlk noGoto

/-! ### a node as the document has it -/
def midM (n : Node) (k j : Nat) (o1 o2 : Own) : List AVal := [.i n.kind, .i n.mode, .i n.uid, .i n.gid, .s n.data, .sl (encNames (n.ents.take k)) o1, .sl (encKids (n.ents.take j)) o2, .s n.target]
structure MSt (n : Node) (b1 b2 b3 : Nat) (z : List AVal) (H : AHeap) (k j : Nat) (o1 o2 : Own) (Y : AHeap) : Prop where
  node : Rd Y b1 (encNode n)
  res : Y b2 = some (.cells z)
  mid : Y b3 = some (.cells (midM n k j o1 o2))
  own1 : Owned Y o1
  own2 : Owned Y o2
  es1 : ownEs 1 o1
  es2 : ownEs 1 o2
  ne : ∀ b, tokB o1 = some b → tokB o2 ≠ some b
  new1 : ∀ b, tokB o1 = some b → H b = none ∧ b ≠ b1 ∧ b ≠ b2 ∧ b ≠ b3
  new2 : ∀ b, tokB o2 = some b → H b = none ∧ b ≠ b1 ∧ b ≠ b2 ∧ b ≠ b3
  sub : ∀ x, H x ≠ none → Y x = H x
/-- A heap in which some blocks read as in another one. -/
theorem back_in {Z Y : AHeap} {bs : List Nat} {b : Nat} (h : b ∈ bs) : Z.back Y bs b = Y b := by simp [AHeap.back, h]
theorem back_out {Z Y : AHeap} {bs : List Nat} {b : Nat} (h : b ∉ bs) : Z.back Y bs b = Z b := by simp [AHeap.back, h]
theorem owned_get {H H' : AHeap} {o : Own} (h : Owned H o) (e : ∀ b, tokB o = some b → H' b = H b) : Owned H' o := by
  cases o with
  | no => exact h
  | full => trivial
  | tok b x s => show H' b = _; rw [e b rfl]; exact h
theorem owned_prot {H : AHeap} {o : Own} {b : Nat} (h : Owned H o) (hn : tokB o ≠ some b) : Owned (H.prot [b]) o := owned_get h fun x hx => prot_other (by
  intro hm
  have := List.mem_singleton.1 hm
  subst this; exact hn hx)
theorem owned_some {H : AHeap} {o : Own} {b : Nat} (h : Owned H o) (hb : tokB o = some b) : H b ≠ none := by
  cases o with
  | no => exact h.elim
  | full => cases hb
  | tok c x s => cases hb; rw [show H b = _ from h]; simp
/-- The heap behind a round's first half. -/
theorem mst_step1 {n : Node} {b1 b2 b3 : Nat} {z : List AVal} {H : AHeap} {k : Nat} {o1 o2 : Own} {Y : AHeap} (h12 : b1 ≠ b2) (h13 : b1 ≠ b3) (h23 : b2 ≠ b3) (hm : MSt n b1 b2 b3 z H k k o1 o2 Y) (hH1 : H b1 = none) (hH2 : H b2 = none) (hH3 : H b3 = none) {o' : Own} (ha : Apart ((Y.prot [b1]).free o1) o') (he : ownEs 1 o') :
    MSt n b1 b2 b3 z H (k + 1) k o' o2 (((((Y.prot [b1]).free o1).own o').put b3 (.cells (midM n (k + 1) k o' o2))).back Y [b1]) := by
  have n1 : ∀ x, x = b1 ∨ x = b2 ∨ x = b3 → tokB o1 ≠ some x := fun x hx e => by
    obtain ⟨_, a, b, c⟩ := hm.new1 x e
    rcases hx with h | h | h <;> contradiction
  have p3 : (Y.prot [b1]) b3 = some (.cells (midM n k k o1 o2)) := by rw [prot_other (by simpa using Ne.symm h13)]; exact hm.mid
  have p2 : (Y.prot [b1]) b2 = some (.cells z) := by rw [prot_other (by simpa using Ne.symm h12)]; exact hm.res
  have p1 : (Y.prot [b1]) b1 = some (.ro (encNode n)) := prot_get (List.mem_singleton.2 rfl) hm.node
  have q3 := apart_ne ha p3 (n1 b3 (.inr (.inr rfl)))
  have q2 := apart_ne ha p2 (n1 b2 (.inr (.inl rfl)))
  have q1 := apart_ne ha p1 (n1 b1 (.inl rfl))
  have hget : ∀ x, x ≠ b1 → x ≠ b3 → tokB o1 ≠ some x → tokB o' ≠ some x → ((((Y.prot [b1]).free o1).own o').put b3 (.cells (midM n (k + 1) k o' o2))).back Y [b1] x = Y x := fun x x1 x3 t1 t2 => by
    rw [back_out (by simpa using x1), put_ne x3, free_own_get t1 t2, prot_other (by simpa using x1)]
  have hq : ∀ x p, (Y.prot [b1]) x = some p → tokB o1 ≠ some x → tokB o' ≠ some x := fun x p hx ht => apart_ne ha hx ht
  have h2 : ∀ x, tokB o2 = some x → tokB o' ≠ some x := fun x hx => by
    have hy := owned_some hm.own2 hx
    have ht : tokB o1 ≠ some x := fun e => hm.ne x e hx
    obtain ⟨_, a1, _⟩ := hm.new2 x hx
    cases hYx : Y x with
    | none => exact absurd hYx hy
    | some p => exact hq x p (by rw [prot_other (by simpa using a1)]; exact hYx) ht
  have hN : ∀ x, H x ≠ none → tokB o1 ≠ some x ∧ tokB o' ≠ some x ∧ x ≠ b1 ∧ x ≠ b3 := fun x hx => by
    have x1 : x ≠ b1 := fun e => hx (e ▸ hH1)
    have t1 : tokB o1 ≠ some x := fun e => hx (hm.new1 x e).1
    refine ⟨t1, ?_, x1, fun e => hx (e ▸ hH3)⟩
    have hY := hm.sub x hx
    cases hHx : H x with
    | none => exact absurd hHx hx
    | some p => exact hq x p (by rw [prot_other (by simpa using x1), hY, hHx]) t1
  refine ⟨?_, ?_, ?_, ?_, ?_, he, hm.es2, fun b hb => fun e => h2 b e hb, fun b hb => ⟨?_, fun e => q1 (e ▸ hb), fun e => q2 (e ▸ hb), fun e => q3 (e ▸ hb)⟩, hm.new2, fun x hx => ?_⟩
  · unfold Rd; rw [back_in (List.mem_singleton.2 rfl)]; exact hm.node
  · rw [hget b2 (Ne.symm h12) h23 (n1 b2 (.inr (.inl rfl))) q2]; exact hm.res
  · rw [back_out (by simpa using Ne.symm h13), put_same]
  · refine owned_get (owned_new ha) fun b hb => ?_
    rw [back_out (by rw [List.mem_singleton]; intro e; exact q1 (e ▸ hb)), put_ne (fun e : b = b3 => q3 (e ▸ hb))]
  · refine owned_get hm.own2 fun b hb => ?_
    obtain ⟨_, a1, _, a3⟩ := hm.new2 b hb
    exact hget b a1 a3 (fun e => hm.ne b e hb) (h2 b hb)
  · cases hHb : H b with
    | none => rfl
    | some p => exact absurd hb (hN b (by rw [hHb]; simp)).2.1
  · obtain ⟨a, b, c, d⟩ := hN x hx
    rw [hget x c d a b]; exact hm.sub x hx
theorem mst_step2 {n : Node} {b1 b2 b3 : Nat} {z : List AVal} {H : AHeap} {k : Nat} {o1 o2 : Own} {Y : AHeap} (h12 : b1 ≠ b2) (h13 : b1 ≠ b3) (h23 : b2 ≠ b3) (hm : MSt n b1 b2 b3 z H (k + 1) k o1 o2 Y) (hH1 : H b1 = none) (hH2 : H b2 = none) (hH3 : H b3 = none) {o' : Own} (ha : Apart ((Y.prot [b1]).free o2) o') (he : ownEs 1 o') :
    MSt n b1 b2 b3 z H (k + 1) (k + 1) o1 o' (((((Y.prot [b1]).free o2).own o').put b3 (.cells (midM n (k + 1) (k + 1) o1 o'))).back Y [b1]) := by
  have n1 : ∀ x, x = b1 ∨ x = b2 ∨ x = b3 → tokB o2 ≠ some x := fun x hx e => by
    obtain ⟨_, a, b, c⟩ := hm.new2 x e
    rcases hx with h | h | h <;> contradiction
  have p3 : (Y.prot [b1]) b3 = some (.cells (midM n (k + 1) k o1 o2)) := by rw [prot_other (by simpa using Ne.symm h13)]; exact hm.mid
  have p2 : (Y.prot [b1]) b2 = some (.cells z) := by rw [prot_other (by simpa using Ne.symm h12)]; exact hm.res
  have p1 : (Y.prot [b1]) b1 = some (.ro (encNode n)) := prot_get (List.mem_singleton.2 rfl) hm.node
  have q3 := apart_ne ha p3 (n1 b3 (.inr (.inr rfl)))
  have q2 := apart_ne ha p2 (n1 b2 (.inr (.inl rfl)))
  have q1 := apart_ne ha p1 (n1 b1 (.inl rfl))
  have hget : ∀ x, x ≠ b1 → x ≠ b3 → tokB o2 ≠ some x → tokB o' ≠ some x → ((((Y.prot [b1]).free o2).own o').put b3 (.cells (midM n (k + 1) (k + 1) o1 o'))).back Y [b1] x = Y x := fun x x1 x3 t1 t2 => by
    rw [back_out (by simpa using x1), put_ne x3, free_own_get t1 t2, prot_other (by simpa using x1)]
  have hq : ∀ x p, (Y.prot [b1]) x = some p → tokB o2 ≠ some x → tokB o' ≠ some x := fun x p hx ht => apart_ne ha hx ht
  have h2 : ∀ x, tokB o1 = some x → tokB o' ≠ some x := fun x hx => by
    have hy := owned_some hm.own1 hx
    have ht : tokB o2 ≠ some x := hm.ne x hx
    obtain ⟨_, a1, _⟩ := hm.new1 x hx
    cases hYx : Y x with
    | none => exact absurd hYx hy
    | some p => exact hq x p (by rw [prot_other (by simpa using a1)]; exact hYx) ht
  have hN : ∀ x, H x ≠ none → tokB o2 ≠ some x ∧ tokB o' ≠ some x ∧ x ≠ b1 ∧ x ≠ b3 := fun x hx => by
    have x1 : x ≠ b1 := fun e => hx (e ▸ hH1)
    have t1 : tokB o2 ≠ some x := fun e => hx (hm.new2 x e).1
    refine ⟨t1, ?_, x1, fun e => hx (e ▸ hH3)⟩
    have hY := hm.sub x hx
    cases hHx : H x with
    | none => exact absurd hHx hx
    | some p => exact hq x p (by rw [prot_other (by simpa using x1), hY, hHx]) t1
  refine ⟨?_, ?_, ?_, ?_, ?_, hm.es1, he, fun b hb => h2 b hb, hm.new1, fun b hb => ⟨?_, fun e => q1 (e ▸ hb), fun e => q2 (e ▸ hb), fun e => q3 (e ▸ hb)⟩, fun x hx => ?_⟩
  · unfold Rd; rw [back_in (List.mem_singleton.2 rfl)]; exact hm.node
  · rw [hget b2 (Ne.symm h12) h23 (n1 b2 (.inr (.inl rfl))) q2]; exact hm.res
  · rw [back_out (by simpa using Ne.symm h13), put_same]
  · refine owned_get hm.own1 fun b hb => ?_
    obtain ⟨_, a1, _, a3⟩ := hm.new1 b hb
    exact hget b a1 a3 (hm.ne b hb) (h2 b hb)
  · refine owned_get (owned_new ha) fun b hb => ?_
    rw [back_out (by rw [List.mem_singleton]; intro e; exact q1 (e ▸ hb)), put_ne (fun e : b = b3 => q3 (e ▸ hb))]
  · cases hHb : H b with
    | none => rfl
    | some p => exact absurd hb (hN b (by rw [hHb]; simp)).2.1
  · obtain ⟨a, b, c, d⟩ := hN x hx
    rw [hget x c d a b]; exact hm.sub x hx
theorem take_names {l : List Ent} {k : Nat} (h : k < l.length) : encNames (l.take k) ++ [[.s l[k].name]] = encNames (l.take (k + 1)) := by
  rw [List.take_add_one, List.getElem?_eq_getElem h]; simp only [encNames, List.map_append]; rfl
theorem take_kids {l : List Ent} {k : Nat} (h : k < l.length) : encKids (l.take k) ++ [[.i l[k].node]] = encKids (l.take (k + 1)) := by
  rw [List.take_add_one, List.getElem?_eq_getElem h]; simp only [encKids, List.map_append]; rfl
theorem uni_names (l : List Ent) : Uni 1 (encNames l) := fun x hx => by
  obtain ⟨e, _, rfl⟩ := List.mem_map.1 hx; rfl
theorem uni_kids (l : List Ent) : Uni 1 (encKids l) := fun x hx => by
  obtain ⟨e, _, rfl⟩ := List.mem_map.1 hx; rfl
theorem uni_one1 (v : AVal) : Uni 1 [[v]] := fun x hx => by
  rw [List.mem_singleton.1 hx]; rfl
end Abs
end Go.Proofs.Ytpifnlodilcgkaa

set_option linter.unusedVariables false
namespace Go.Proofs.Ytpifnlodilcgkaa
namespace Abs
set_option maxRecDepth 10000
attribute [local irreducible] AOps AW AP ACalls thenQ inBlk noGoto

end Abs
end Go.Proofs.Ytpifnlodilcgkaa
