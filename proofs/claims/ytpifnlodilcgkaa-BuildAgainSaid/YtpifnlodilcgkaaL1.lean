import Derived.Test.YtpifnlodilcgkaaT1
import Derived.Test.YtpifnlodilcgkaaQ1
import Derived.Test.YtpifnlodilcgkaaA10
import Derived.Test.YtpifnlodilcgkaaQ10
set_option linter.unusedVariables false
namespace Go.Proofs.Ytpifnlodilcgkaa
namespace Abs
set_option maxRecDepth 10000
attribute [local irreducible] AOps AW ACalls thenQ inBlk noGoto

/-! ### package gaolerlaw09: few, small, awake -/
structure Ac where
  kind : Nat
  i : Int
  n : Node
def Node.len (n : Node) : Prop := n.ents.length ≤ 9223372036854775807
def Node.few (n : Node) : Prop := n.ents.length ≤ 20 ∧ n.data.size ≤ 100 ∧ n.target.size ≤ 100 ∧ ∀ e ∈ n.ents, e.name.size ≤ 40
theorem Node.few.small {n : Node} (h : n.few) : n.small := ⟨by have := h.2.1; omega, by have := h.1; omega⟩

end Abs
end Go.Proofs.Ytpifnlodilcgkaa

set_option linter.unusedVariables false
namespace Go.Proofs.Ytpifnlodilcgkaa
namespace Abs
set_option maxRecDepth 10000
attribute [local irreducible] AOps AW ACalls thenQ inBlk noGoto

/-! ### the document's example -/
end Abs
end Go.Proofs.Ytpifnlodilcgkaa

set_option linter.unusedVariables false
namespace Go.Proofs.Ytpifnlodilcgkaa
namespace Abs
set_option maxRecDepth 10000
attribute [local irreducible] AOps AW ACalls thenQ inBlk noGoto

/-! ### what a table counts -/
theorem has_put {T : Tab} (hl : T.nodes.length = 24) {k : Nat} (hk : k < 24) (n : Node) (j : Nat) : (T.put k n).has (j + 1) = if j = k then decide ((k : Int) < T.room) && !decide (n.kind = 0) else T.has (j + 1) := by
  unfold Tab.has Tab.put
  simp only [show ((j : Int) + 1 - 1).toNat = j by omega, decide_eq_true (show (1 : Int) ≤ (j : Int) + 1 by omega), Bool.true_and]
  by_cases h : j = k
  · subst h
    rw [if_pos rfl, List.getD_eq_getElem?_getD, List.getElem?_set_self (by omega)]
    rfl
  · rw [if_neg h, List.getD_eq_getElem?_getD, List.getElem?_set_ne (Ne.symm h), ← List.getD_eq_getElem?_getD]
/-! ### the numbers that are used, as the law keeps them -/
end Abs
end Go.Proofs.Ytpifnlodilcgkaa

set_option linter.unusedVariables false
namespace Go.Proofs.Ytpifnlodilcgkaa
namespace Abs
set_option maxRecDepth 10000
attribute [local irreducible] AOps AW ACalls thenQ inBlk noGoto

/-! ### all entries, and all links: the plain law -/
def Tab.all (T : Tab) : Nat → List Int
  | 0 => []
  | k + 1 => T.all k ++ (T.nd k).ents.map (·.node)
def Tab.lsum (T : Tab) : Nat → Int
  | 0 => 0
  | k + 1 => T.lsum k + if T.has (k + 1) then T.links (k + 1) else 0
def cnt (i : Int) (A : List Int) : Nat := (A.filter fun a => decide (a = i)).length
theorem cnt_append (i : Int) (A B : List Int) : cnt i (A ++ B) = cnt i A + cnt i B := by simp [cnt]
theorem tells_cnt (T : Tab) (i : Int) : ∀ k : Nat, (T.tells i k).length = cnt i (T.all k)
  | 0 => rfl
  | k + 1 => by
    simp only [Tab.tells, Tab.all, List.length_append, cnt_append, tells_cnt T i k]
    congr 1
    unfold Tab.nd
    split
    · simp only [Tab.tellsOf, List.length_map, cnt, List.filter_map]
      rfl
    · rfl
theorem nd_beyond {T : Tab} {k : Nat} (h : ¬ (k : Int) < T.room) : T.nd k = Node.zero := by
  unfold Tab.nd
  have : T.has (k + 1) = false := by
    unfold Tab.has
    rw [decide_eq_false (show ¬ (k : Int) + 1 ≤ T.room by omega)]
    simp
  rw [this]; rfl
theorem all_beyond {T : Tab} (hw : T.wf) : ∀ k : Nat, T.room.toNat ≤ k → T.all k = T.all T.room.toNat
  | 0, h => by have := hw.2.1; omega
  | k + 1, h => by
    rcases Nat.lt_or_ge k T.room.toNat with h' | h'
    · have : k + 1 = T.room.toNat := by omega
      rw [this]
    · simp only [Tab.all]
      rw [nd_beyond (by have := hw.2.1; omega), all_beyond hw k h']
      simp [Node.zero]
theorem links_cnt {T : Tab} (hw : T.wf) (i : Int) : T.links i = cnt i (T.all 24) := by
  unfold Tab.links
  rw [tells_cnt, all_beyond hw 24 (by have := hw.2.1; omega)]
def hsum (T : Tab) (A : List Int) : Nat → Int
  | 0 => 0
  | k + 1 => hsum T A k + if T.has (k + 1) then (cnt (k + 1) A : Int) else 0
theorem lsum_hsum {T : Tab} (hw : T.wf) : ∀ m : Nat, T.lsum m = hsum T (T.all 24) m
  | 0 => rfl
  | m + 1 => by simp only [Tab.lsum, hsum, lsum_hsum hw m, links_cnt hw]
theorem hsum_cons (T : Tab) (a : Int) (A : List Int) : ∀ m : Nat, hsum T (a :: A) m = hsum T A m + if T.has a ∧ 1 ≤ a ∧ a ≤ m then 1 else 0
  | 0 => by simp only [hsum]; rw [if_neg (by omega)]; rfl
  | m + 1 => by
    simp only [hsum, hsum_cons T a A m]
    by_cases h : a = (m : Int) + 1
    · have e : cnt ((m : Int) + 1) (a :: A) = cnt ((m : Int) + 1) A + 1 := by simp [cnt, h]
      rw [e, if_neg (show ¬ (T.has a = true ∧ 1 ≤ a ∧ a ≤ (m : Int)) by omega)]
      subst h
      cases hh : T.has ((m : Int) + 1) with
      | true =>
        rw [if_pos rfl, if_pos rfl, if_pos (show true = true ∧ 1 ≤ (m : Int) + 1 ∧ (m : Int) + 1 ≤ ((m + 1 : Nat) : Int) from ⟨rfl, by omega, by omega⟩)]
        omega
      | false =>
        rw [if_neg (by decide), if_neg (by decide), if_neg (show ¬ (false = true ∧ 1 ≤ (m : Int) + 1 ∧ (m : Int) + 1 ≤ ((m + 1 : Nat) : Int)) from fun h => by cases h.1)]
    · have e : cnt ((m : Int) + 1) (a :: A) = cnt ((m : Int) + 1) A := by simp [cnt, h]
      rw [e]
      by_cases h2 : T.has a = true ∧ 1 ≤ a ∧ a ≤ (m : Int)
      · rw [if_pos h2, if_pos (show T.has a = true ∧ 1 ≤ a ∧ a ≤ ((m + 1 : Nat) : Int) from ⟨h2.1, h2.2.1, by omega⟩)]
        omega
      · rw [if_neg h2, if_neg (show ¬ (T.has a = true ∧ 1 ≤ a ∧ a ≤ ((m + 1 : Nat) : Int)) from fun h3 => h2 ⟨h3.1, h3.2.1, by omega⟩)]
        omega
theorem hsum_le (T : Tab) : ∀ A : List Int, hsum T A 24 ≤ A.length ∧ (A.all T.has = true → (∀ a ∈ A, T.has a = true → 1 ≤ a ∧ a ≤ 24) → hsum T A 24 = A.length)
  | [] => by
    have : ∀ m, hsum T [] m = 0 := by
      intro m
      induction m with
      | zero => rfl
      | succ m ih => simp [hsum, ih, cnt]
    rw [this]
    exact ⟨Int.le_refl _, fun _ _ => rfl⟩
  | a :: A => by
    obtain ⟨h1, h2⟩ := hsum_le T A
    rw [hsum_cons]
    simp only [List.length_cons]
    refine ⟨by split <;> omega, fun h3 h4 => ?_⟩
    simp only [List.all_cons, Bool.and_eq_true] at h3
    obtain ⟨h5, h6⟩ := h4 a List.mem_cons_self h3.1
    rw [if_pos ⟨h3.1, h5, by omega⟩, h2 h3.2 (fun x hx => h4 x (List.mem_cons_of_mem _ hx))]
    omega
theorem counts_law {T : Tab} (hw : T.wf) : T.lsum 24 ≤ (T.all 24).length ∧ ((T.all 24).all T.has = true → T.lsum 24 = (T.all 24).length) := by
  rw [lsum_hsum hw]
  refine ⟨(hsum_le T _).1, fun h => (hsum_le T _).2 h (fun a _ ha => ?_)⟩
  have := has_lt hw ha
  have := hw.2.1
  omega
end Abs
end Go.Proofs.Ytpifnlodilcgkaa

set_option linter.unusedVariables false
namespace Go.Proofs.Ytpifnlodilcgkaa
namespace Abs
set_option maxRecDepth 10000
attribute [local irreducible] AOps AW ACalls thenQ inBlk noGoto

/-! ### a table, and its nodes as a list: the plain law -/
/-- Each node is none, or one that may be. -/
def Tab.clean (T : Tab) : Prop := ∀ n ∈ T.nodes, n = Node.zero ∨ nodeOk n = true
theorem clean_new (room : Int) : (Tab.new room).clean := fun n hn => .inl (List.eq_of_mem_replicate hn)
/-- A list that tells a table's nodes. -/
structure Rel (T : Tab) (L : List Node) : Prop where
  len : T.room ≤ L.length
  most : L.length ≤ 1000
  get : ∀ k : Nat, L.getD k Node.zero = T.nd k
theorem nodeOk_kind {n : Node} (h : nodeOk n = true) : n.kind = 1 ∨ n.kind = 2 ∨ n.kind = 3 := by
  unfold nodeOk at h
  by_cases h1 : n.kind = 1
  · exact .inl h1
  by_cases h2 : n.kind = 2
  · exact .inr (.inl h2)
  by_cases h3 : n.kind = 3
  · exact .inr (.inr h3)
  rw [if_neg h1, if_neg h2, if_neg h3, Bool.and_false] at h
  cases h
theorem get_clean {T : Tab} (hc : T.clean) (i : Int) : T.get i = Node.zero ∨ nodeOk (T.get i) = true := by
  unfold Tab.get
  rw [List.getD_eq_getElem?_getD]
  rcases Nat.lt_or_ge (i - 1).toNat T.nodes.length with h | h
  · rw [List.getElem?_eq_getElem h]; exact hc _ (List.getElem_mem h)
  · rw [List.getElem?_eq_none h]; exact .inl rfl
theorem has_kind {T : Tab} {i : Int} (h : T.has i = true) : (T.get i).kind ≠ 0 := by
  unfold Tab.has at h
  simp only [Bool.and_eq_true, Bool.not_eq_true', decide_eq_false_iff_not] at h
  exact h.2
theorem nd_has {T : Tab} {i : Int} (h : T.has i = true) : T.nd (i - 1).toNat = T.get i := by
  have h1 : 1 ≤ i := by
    unfold Tab.has at h
    simp only [Bool.and_eq_true, decide_eq_true_eq] at h
    exact h.1.1
  unfold Tab.nd
  rw [show (((i - 1).toNat : Int) + 1) = i by omega, if_pos h]
theorem nd_hasnt {T : Tab} {i : Int} (hi : 1 ≤ i) (h : T.has i = false) : T.nd (i - 1).toNat = Node.zero := by
  unfold Tab.nd
  rw [show (((i - 1).toNat : Int) + 1) = i by omega, h]; rfl
theorem l_get {T : Tab} (hw : T.wf) {L : List Node} (hr : Rel T L) (i : Int) : rget L i = if T.has i then T.get i else Node.zero := by
  unfold rget
  have hl := hr.len
  cases h : T.has i with
  | true =>
    have h2 := has_lt hw h
    rw [if_pos (by omega), hr.get, nd_has h]; rfl
  | false =>
    by_cases h1 : 1 ≤ i ∧ i ≤ (L.length : Int)
    · rw [if_pos h1, hr.get, nd_hasnt h1.1 h]; rfl
    · rw [if_neg h1]; rfl
theorem links_nonneg (T : Tab) (i : Int) : 0 ≤ T.links i := by unfold Tab.links; omega
theorem same_refl (a : Node) : a.same a = true := by simp [Node.same]
/-- A new table, and as many nodes that are none. -/
theorem nd_new (room : Int) (k : Nat) : (Tab.new room).nd k = Node.zero := by
  unfold Tab.nd
  split
  · rename_i h
    have := has_kind h
    rcases get_clean (clean_new room) ((k : Int) + 1) with e | e
    · exact e
    · exfalso
      unfold Tab.get Tab.new at this
      rw [List.getD_eq_getElem?_getD, List.getElem?_replicate] at this
      split at this <;> exact this rfl
  · rfl
theorem nd_put {T : Tab} (hl : T.nodes.length = 24) {k : Nat} (hk : (k : Int) < T.room) (h24 : k < 24) {n : Node} (hn : n = Node.zero ∨ nodeOk n = true) (j : Nat) : (T.put k n).nd j = if j = k then n else T.nd j := by
  have hg : ∀ i : Int, (T.put k n).get i = if (i - 1).toNat = k then n else T.get i := fun i => by
    unfold Tab.get Tab.put
    rw [List.getD_eq_getElem?_getD, List.getD_eq_getElem?_getD, List.getElem?_set]
    by_cases e : k = (i - 1).toNat
    · rw [if_pos e, if_pos (by omega), if_pos e.symm]; rfl
    · rw [if_neg e, if_neg (fun h => e h.symm)]
  unfold Tab.nd
  rw [hg, has_put hl h24, show ((j : Int) + 1 - 1).toNat = j by omega]
  by_cases e : j = k
  · rw [if_pos e, if_pos e, if_pos e, decide_eq_true hk, Bool.true_and]
    rcases hn with rfl | h
    · rfl
    · have := nodeOk_kind h
      rw [decide_eq_false (show ¬ n.kind = 0 by omega)]; rfl
  · rw [if_neg e, if_neg e, if_neg e]
end Abs
end Go.Proofs.Ytpifnlodilcgkaa
