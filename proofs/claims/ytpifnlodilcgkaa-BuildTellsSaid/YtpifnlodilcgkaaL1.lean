import Derived.Test.YtpifnlodilcgkaaT1
import Derived.Test.YtpifnlodilcgkaaQ1
import Derived.Test.YtpifnlodilcgkaaA10
import Derived.Test.YtpifnlodilcgkaaQ10
set_option linter.unusedVariables false
namespace Go.Proofs.Ytpifnlodilcgkaa
namespace Abs
set_option maxRecDepth 10000
attribute [local irreducible] AOps AW ACalls thenQ inBlk noGoto

/-! ### package gaolerlaw09: few, small, awake -/
structure Ac where
  kind : Nat
  i : Int
  n : Node
def Node.len (n : Node) : Prop := n.ents.length ≤ 9223372036854775807
def Node.few (n : Node) : Prop := n.ents.length ≤ 20 ∧ n.data.size ≤ 100 ∧ n.target.size ≤ 100 ∧ ∀ e ∈ n.ents, e.name.size ≤ 40
theorem Node.few.small {n : Node} (h : n.few) : n.small := ⟨by have := h.2.1; omega, by have := h.1; omega⟩

end Abs
end Go.Proofs.Ytpifnlodilcgkaa

set_option linter.unusedVariables false
namespace Go.Proofs.Ytpifnlodilcgkaa
namespace Abs
set_option maxRecDepth 10000
attribute [local irreducible] AOps AW ACalls thenQ inBlk noGoto

/-! ### the document's example -/
end Abs
end Go.Proofs.Ytpifnlodilcgkaa

set_option linter.unusedVariables false
namespace Go.Proofs.Ytpifnlodilcgkaa
namespace Abs
set_option maxRecDepth 10000
attribute [local irreducible] AOps AW ACalls thenQ inBlk noGoto

/-! ### what a table counts -/
/-! ### the numbers that are used, as the law keeps them -/
end Abs
end Go.Proofs.Ytpifnlodilcgkaa

set_option linter.unusedVariables false
namespace Go.Proofs.Ytpifnlodilcgkaa
namespace Abs
set_option maxRecDepth 10000
attribute [local irreducible] AOps AW ACalls thenQ inBlk noGoto

/-! ### all entries, and all links: the plain law -/
def Tab.all (T : Tab) : Nat → List Int
  | 0 => []
  | k + 1 => T.all k ++ (T.nd k).ents.map (·.node)
def cnt (i : Int) (A : List Int) : Nat := (A.filter fun a => decide (a = i)).length
end Abs
end Go.Proofs.Ytpifnlodilcgkaa

set_option linter.unusedVariables false
namespace Go.Proofs.Ytpifnlodilcgkaa
namespace Abs
set_option maxRecDepth 10000
attribute [local irreducible] AOps AW ACalls thenQ inBlk noGoto

/-! ### a table, and its nodes as a list: the plain law -/
/-- Each node is none, or one that may be. -/
def Tab.clean (T : Tab) : Prop := ∀ n ∈ T.nodes, n = Node.zero ∨ nodeOk n = true
/-- A list that tells a table's nodes. -/
structure Rel (T : Tab) (L : List Node) : Prop where
  len : T.room ≤ L.length
  most : L.length ≤ 1000
  get : ∀ k : Nat, L.getD k Node.zero = T.nd k
theorem nodeOk_kind {n : Node} (h : nodeOk n = true) : n.kind = 1 ∨ n.kind = 2 ∨ n.kind = 3 := by
  unfold nodeOk at h
  by_cases h1 : n.kind = 1
  · exact .inl h1
  by_cases h2 : n.kind = 2
  · exact .inr (.inl h2)
  by_cases h3 : n.kind = 3
  · exact .inr (.inr h3)
  rw [if_neg h1, if_neg h2, if_neg h3, Bool.and_false] at h
  cases h
theorem get_clean {T : Tab} (hc : T.clean) (i : Int) : T.get i = Node.zero ∨ nodeOk (T.get i) = true := by
  unfold Tab.get
  rw [List.getD_eq_getElem?_getD]
  rcases Nat.lt_or_ge (i - 1).toNat T.nodes.length with h | h
  · rw [List.getElem?_eq_getElem h]; exact hc _ (List.getElem_mem h)
  · rw [List.getElem?_eq_none h]; exact .inl rfl
theorem has_kind {T : Tab} {i : Int} (h : T.has i = true) : (T.get i).kind ≠ 0 := by
  unfold Tab.has at h
  simp only [Bool.and_eq_true, Bool.not_eq_true', decide_eq_false_iff_not] at h
  exact h.2
theorem nd_has {T : Tab} {i : Int} (h : T.has i = true) : T.nd (i - 1).toNat = T.get i := by
  have h1 : 1 ≤ i := by
    unfold Tab.has at h
    simp only [Bool.and_eq_true, decide_eq_true_eq] at h
    exact h.1.1
  unfold Tab.nd
  rw [show (((i - 1).toNat : Int) + 1) = i by omega, if_pos h]
theorem nd_hasnt {T : Tab} {i : Int} (hi : 1 ≤ i) (h : T.has i = false) : T.nd (i - 1).toNat = Node.zero := by
  unfold Tab.nd
  rw [show (((i - 1).toNat : Int) + 1) = i by omega, h]; rfl
theorem l_has {T : Tab} (hw : T.wf) {L : List Node} (hr : Rel T L) (i : Int) : ris L i = T.has i := by
  unfold ris
  by_cases h1 : 1 ≤ i
  · rw [hr.get, decide_eq_true h1, Bool.true_and]
    cases h : T.has i with
    | true =>
      have h2 := has_lt hw h
      have := hr.len
      rw [nd_has h, decide_eq_true (show i ≤ (L.length : Int) by omega), decide_eq_false (has_kind h)]; rfl
    | false => rw [nd_hasnt h1 h]; simp [Node.zero]
  · rw [decide_eq_false h1]
    unfold Tab.has
    rw [decide_eq_false h1]; rfl
theorem l_get {T : Tab} (hw : T.wf) {L : List Node} (hr : Rel T L) (i : Int) : rget L i = if T.has i then T.get i else Node.zero := by
  unfold rget
  have hl := hr.len
  cases h : T.has i with
  | true =>
    have h2 := has_lt hw h
    rw [if_pos (by omega), hr.get, nd_has h]; rfl
  | false =>
    by_cases h1 : 1 ≤ i ∧ i ≤ (L.length : Int)
    · rw [if_pos h1, hr.get, nd_hasnt h1.1 h]; rfl
    · rw [if_neg h1]; rfl
theorem l_tells {T : Tab} {L : List Node} (hr : Rel T L) (i : Int) : ∀ k : Nat, rtells L i k = T.tells i k
  | 0 => rfl
  | k + 1 => by
    simp only [rtells, Tab.tells, l_tells hr i k, hr.get, Tab.nd]
    congr 1
    split <;> rfl
theorem has_beyond {T : Tab} {k : Nat} (h : T.room ≤ k) : T.has ((k : Int) + 1) = false := by
  unfold Tab.has
  rw [decide_eq_false (show ¬ (k : Int) + 1 ≤ T.room by omega), Bool.and_false, Bool.false_and]
theorem tells_beyond {T : Tab} (hw : T.wf) (i : Int) : ∀ k : Nat, T.room ≤ k → T.tells i k = T.tells i T.room.toNat
  | 0, h => by have := hw.2.1; omega
  | k + 1, h => by
    by_cases e : T.room = ((k + 1 : Nat) : Int)
    · rw [e]; rfl
    · simp only [Tab.tells, has_beyond (T := T) (k := k) (by omega)]
      rw [if_neg (by simp), List.append_nil]
      exact tells_beyond hw i k (by omega)
theorem l_links {T : Tab} (hw : T.wf) {L : List Node} (hr : Rel T L) (i : Int) : rlinks L i = T.links i := by
  rw [rlinks, Tab.links, l_tells hr, tells_beyond hw i _ hr.len]
theorem l_parent {T : Tab} (hw : T.wf) {L : List Node} (hr : Rel T L) (i : Int) : rparent L i = T.parent i := by
  rw [rparent, Tab.parent, l_tells hr, tells_beyond hw i _ hr.len]
theorem l_rooted {T : Tab} (hw : T.wf) {L : List Node} (hr : Rel T L) : ∀ (k : Nat) (i : Int), rrooted L k i = T.rooted k i
  | 0, _ => rfl
  | k + 1, i => by simp only [rrooted, Tab.rooted, l_parent hw hr, l_rooted hw hr k]
theorem links_nonneg (T : Tab) (i : Int) : 0 ≤ T.links i := by unfold Tab.links; omega
theorem rootedR {T : Tab} (r0 : Bool) (op : List Int) (hr : r0 = false) : ∀ k : Nat, T.rightTo op r0 k = false
  | 0 => hr
  | k + 1 => by simp only [Tab.rightTo, rootedR r0 op hr k, Tab.rightStep, Bool.false_and, ite_self]
theorem rightTo_beyond {T : Tab} (hw : T.wf) (op : List Int) (r : Bool) : ∀ k : Nat, T.room ≤ k → T.rightTo op r k = T.rightTo op r T.room.toNat
  | 0, h => by have := hw.2.1; omega
  | k + 1, h => by
    by_cases e : T.room = ((k + 1 : Nat) : Int)
    · rw [e]; rfl
    · simp only [Tab.rightTo, has_beyond (T := T) (k := k) (by omega)]
      rw [if_neg (by simp)]
      exact rightTo_beyond hw op r k (by omega)
theorem l_rightTo {T : Tab} (hw : T.wf) (hc : T.clean) {L : List Node} (hr : Rel T L) (op : List Int) (hk1 : (T.get 1).kind = 2) : ∀ k : Nat, rrightTo L op k = T.rightTo op true k
  | 0 => rfl
  | k + 1 => by
    simp only [rrightTo, Tab.rightTo, l_rightTo hw hc hr op hk1 k]
    have hl0 := links_nonneg T ((k : Int) + 1)
    cases hh : T.has ((k : Int) + 1) with
    | false =>
      have hz : T.nd k = Node.zero := by unfold Tab.nd; rw [hh]; rfl
      have : rstep L op k = true := by
        unfold rstep
        rw [hr.get, hz]
        simp [Node.zero]
      rw [this, Bool.and_true]; rfl
    | true =>
      rw [if_pos rfl]
      have hz : T.nd k = T.get ((k : Int) + 1) := by unfold Tab.nd; rw [hh]; rfl
      unfold rstep Tab.rightStep
      rw [hr.get, hz, show (fun e : Ent => ris L e.node) = (fun e => T.has e.node) from funext fun e => l_has hw hr _, l_links hw hr, l_rooted hw hr]
      refine (Bool.and_assoc _ _ _).symm.trans (congrArg _ ?_)
      have hkd : (T.get ((k : Int) + 1)).kind = 1 ∨ (T.get ((k : Int) + 1)).kind = 2 ∨ (T.get ((k : Int) + 1)).kind = 3 := by
        rcases get_clean hc ((k : Int) + 1) with e | e
        · have := has_kind hh
          rw [e] at this; simp [Node.zero] at this
        · exact nodeOk_kind e
      by_cases hk0 : k = 0
      · subst hk0
        have h2 : (T.get (((0 : Nat) : Int) + 1)).kind = 2 := hk1
        rw [h2]
        simp
      · rw [if_neg (show ¬ (k : Int) + 1 = 1 by omega), decide_eq_true (show (k : Int) + 1 > 1 by omega)]
        rcases hkd with e | e | e <;> rw [e]
        · simp
          by_cases z : T.links ((k : Int) + 1) = 0
          · simp [z]
          · have : 0 < T.links ((k : Int) + 1) := by omega
            simp [z, this]
        · simp
        · simp
          by_cases z : T.links ((k : Int) + 1) = 0
          · simp [z]
          · have : 0 < T.links ((k : Int) + 1) := by omega
            simp [z, this]
theorem l_right {T : Tab} (hw : T.wf) (hc : T.clean) {L : List Node} (hr : Rel T L) (op : List Int) : rright L op = T.right op := by
  have h2 := hw.2.1
  unfold rright Tab.right
  rw [l_get hw hr, l_links hw hr]
  have hl0 := links_nonneg T 1
  cases hh : T.has 1 with
  | false => rw [rootedR _ op (by simp)]; simp [Node.zero]
  | true =>
    rw [if_pos rfl, Bool.true_and]
    by_cases hk : (T.get 1).kind = 2
    · by_cases hl : T.links 1 = 0
      · rw [decide_eq_true hk, decide_eq_true hl, hl, l_rightTo hw hc hr op hk, rightTo_beyond hw op _ _ hr.len]; rfl
      · have : T.links 1 > 0 := by omega
        rw [decide_eq_false hl, decide_eq_true this, Bool.and_false, rootedR _ op rfl]; simp
    · rw [decide_eq_false hk]; simp only [Bool.false_and]; rw [rootedR _ op rfl]
theorem same_refl (a : Node) : a.same a = true := by simp [Node.same]
end Abs
end Go.Proofs.Ytpifnlodilcgkaa
