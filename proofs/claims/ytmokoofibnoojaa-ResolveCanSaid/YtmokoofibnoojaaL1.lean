import Derived.Test.YtmokoofibnoojaaT1
import Derived.Test.YtmokoofibnoojaaQ2
import Derived.Test.YtmokoofibnoojaaA10
import Derived.Test.YtmokoofibnoojaaQ10
set_option linter.unusedVariables false
namespace Go.Proofs.Ytmokoofibnoojaa
namespace Abs
set_option maxRecDepth 10000
attribute [local irreducible] AOps AW ACalls thenQ inBlk noGoto

/-! ### package gaolerlaw09: few, small, awake -/
structure Ac where
  kind : Nat
  i : Int
  n : Node
def Node.len (n : Node) : Prop := n.ents.length ≤ 9223372036854775807
def Node.few (n : Node) : Prop := n.ents.length ≤ 20 ∧ n.data.size ≤ 100 ∧ n.target.size ≤ 100 ∧ ∀ e ∈ n.ents, e.name.size ≤ 40
theorem Node.few.small {n : Node} (h : n.few) : n.small := ⟨by have := h.2.1; omega, by have := h.1; omega⟩

end Abs
end Go.Proofs.Ytmokoofibnoojaa

set_option linter.unusedVariables false
namespace Go.Proofs.Ytmokoofibnoojaa
namespace Abs
set_option maxRecDepth 10000
attribute [local irreducible] AOps AW ACalls thenQ inBlk noGoto

/-! ### the document's example -/
end Abs
end Go.Proofs.Ytmokoofibnoojaa

set_option linter.unusedVariables false
namespace Go.Proofs.Ytmokoofibnoojaa
namespace Abs
set_option maxRecDepth 10000
attribute [local irreducible] AOps AW ACalls thenQ inBlk noGoto

/-! ### what a table counts -/
/-! ### the numbers that are used, as the law keeps them -/
end Abs
end Go.Proofs.Ytmokoofibnoojaa

set_option linter.unusedVariables false
namespace Go.Proofs.Ytmokoofibnoojaa
namespace Abs
set_option maxRecDepth 10000
attribute [local irreducible] AOps AW ACalls thenQ inBlk noGoto

/-! ### all entries, and all links: the plain law -/
def Tab.all (T : Tab) : Nat → List Int
  | 0 => []
  | k + 1 => T.all k ++ (T.nd k).ents.map (·.node)
def cnt (i : Int) (A : List Int) : Nat := (A.filter fun a => decide (a = i)).length
end Abs
end Go.Proofs.Ytmokoofibnoojaa

set_option linter.unusedVariables false
namespace Go.Proofs.Ytmokoofibnoojaa
namespace Abs
set_option maxRecDepth 10000
attribute [local irreducible] AOps AW ACalls thenQ inBlk noGoto

/-! ### a table, and its nodes as a list: the plain law -/
/-- Each node is none, or one that may be. -/
def Tab.clean (T : Tab) : Prop := ∀ n ∈ T.nodes, n = Node.zero ∨ nodeOk n = true
/-- A list that tells a table's nodes. -/
structure Rel (T : Tab) (L : List Node) : Prop where
  len : T.room ≤ L.length
  most : L.length ≤ 1000
  get : ∀ k : Nat, L.getD k Node.zero = T.nd k
theorem get_clean {T : Tab} (hc : T.clean) (i : Int) : T.get i = Node.zero ∨ nodeOk (T.get i) = true := by
  unfold Tab.get
  rw [List.getD_eq_getElem?_getD]
  rcases Nat.lt_or_ge (i - 1).toNat T.nodes.length with h | h
  · rw [List.getElem?_eq_getElem h]; exact hc _ (List.getElem_mem h)
  · rw [List.getElem?_eq_none h]; exact .inl rfl
theorem has_kind {T : Tab} {i : Int} (h : T.has i = true) : (T.get i).kind ≠ 0 := by
  unfold Tab.has at h
  simp only [Bool.and_eq_true, Bool.not_eq_true', decide_eq_false_iff_not] at h
  exact h.2
theorem nd_has {T : Tab} {i : Int} (h : T.has i = true) : T.nd (i - 1).toNat = T.get i := by
  have h1 : 1 ≤ i := by
    unfold Tab.has at h
    simp only [Bool.and_eq_true, decide_eq_true_eq] at h
    exact h.1.1
  unfold Tab.nd
  rw [show (((i - 1).toNat : Int) + 1) = i by omega, if_pos h]
theorem nd_hasnt {T : Tab} {i : Int} (hi : 1 ≤ i) (h : T.has i = false) : T.nd (i - 1).toNat = Node.zero := by
  unfold Tab.nd
  rw [show (((i - 1).toNat : Int) + 1) = i by omega, h]; rfl
theorem l_get {T : Tab} (hw : T.wf) {L : List Node} (hr : Rel T L) (i : Int) : rget L i = if T.has i then T.get i else Node.zero := by
  unfold rget
  have hl := hr.len
  cases h : T.has i with
  | true =>
    have h2 := has_lt hw h
    rw [if_pos (by omega), hr.get, nd_has h]; rfl
  | false =>
    by_cases h1 : 1 ≤ i ∧ i ≤ (L.length : Int)
    · rw [if_pos h1, hr.get, nd_hasnt h1.1 h]; rfl
    · rw [if_neg h1]; rfl
theorem has_beyond {T : Tab} {k : Nat} (h : T.room ≤ k) : T.has ((k : Int) + 1) = false := by
  unfold Tab.has
  rw [decide_eq_false (show ¬ (k : Int) + 1 ≤ T.room by omega), Bool.and_false, Bool.false_and]
end Abs
end Go.Proofs.Ytmokoofibnoojaa
