import Derived.Test.YtmokoofibnoojaaV6
set_option linter.unusedVariables false
namespace Go.Proofs.Ytmokoofibnoojaa
namespace Abs

/-! ### sorting by insertion is sorting: the plain law -/
def tl (s : ByteArray) : List UInt8 := s.data.toList
theorem tl_inj {a b : ByteArray} (h : tl a = tl b) : a = b := by
  cases a; cases b
  simpa [tl] using h
theorem bless (a b : ByteArray) : Op.bytesLess a.toList b.toList = decide (tl a < tl b) := by
  rw [bytesLess_eq, ByteArray.toList_eq, ByteArray.toList_eq]; rfl
def insR (x : ByteArray) : List ByteArray → List ByteArray
  | [] => [x]
  | e :: l => if tl x < tl e then x :: e :: l else e :: insR x l
theorem sTo_fold (x : ByteArray) (l : List ByteArray) : ∀ k : Nat, k ≤ l.length → sTo x l k = (l.take k).foldl (sStep x) ([], false)
  | 0, _ => by simp [sTo]
  | k + 1, h => by
    have hk : k < l.length := h
    rw [sTo, sTo_fold x l k (by omega), List.take_add_one, List.getElem?_eq_getElem hk, Option.toList_some, List.foldl_append, List.getD_eq_getElem?_getD, List.getElem?_eq_getElem hk]
    rfl
theorem fold_done (x : ByteArray) : ∀ (l A : List ByteArray), l.foldl (sStep x) (A, true) = (A ++ l, true)
  | [], A => by simp
  | e :: l, A => by
    rw [List.foldl_cons, show sStep x (A, true) e = (A ++ [e], true) by simp [sStep], fold_done x l]
    simp
theorem fold_ins (x : ByteArray) : ∀ (l A : List ByteArray), (if (l.foldl (sStep x) (A, false)).2 = true then (l.foldl (sStep x) (A, false)).1 else (l.foldl (sStep x) (A, false)).1 ++ [x]) = A ++ insR x l
  | [], A => by simp [insR]
  | e :: l, A => by
    rw [List.foldl_cons]
    by_cases h : tl x < tl e
    · rw [show sStep x (A, false) e = (A ++ [x] ++ [e], true) by simp [sStep, bless, h], fold_done, if_pos rfl, insR, if_pos h]
      simp
    · rw [show sStep x (A, false) e = (A ++ [e], false) by simp [sStep, bless, h], fold_ins x l, insR, if_neg h]
      simp
theorem sEnd_ins (x : ByteArray) (l : List ByteArray) : sEnd x l = insR x l := by
  have h := fold_ins x l []
  rw [sEnd, sTo_fold x l l.length (Nat.le_refl _), List.take_length, h, List.nil_append]
theorem insR_perm (x : ByteArray) : ∀ l : List ByteArray, (insR x l).Perm (x :: l)
  | [] => .refl _
  | e :: l => by
    rw [insR]
    split
    · exact .refl _
    · exact ((insR_perm x l).cons e).trans (.swap x e l)
theorem sortTo_perm (l : List ByteArray) : ∀ k : Nat, k ≤ l.length → (sortTo l k).Perm (l.take k)
  | 0, _ => by simp [sortTo]
  | k + 1, h => by
    have hk : k < l.length := h
    rw [sortTo, sEnd_ins, List.take_add_one, List.getElem?_eq_getElem hk, Option.toList_some, List.getD_eq_getElem?_getD, List.getElem?_eq_getElem hk, Option.getD_some]
    exact ((insR_perm _ _).trans ((sortTo_perm l k (by omega)).cons _)).trans (List.perm_append_comm (l₁ := [l[k]]) (l₂ := l.take k))
def leB (a b : ByteArray) : Prop := tl a ≤ tl b
theorem leB_total (a b : ByteArray) : leB a b ∨ leB b a := List.le_total _ _
theorem leB_trans {a b c : ByteArray} (h : leB a b) (k : leB b c) : leB a c := List.le_trans h k
theorem leB_of_lt {a b : ByteArray} (h : tl a < tl b) : leB a b := List.le_of_lt h
theorem leB_of_not {a b : ByteArray} (h : ¬ tl a < tl b) : leB b a := List.not_lt.1 h
theorem insR_sorted (x : ByteArray) : ∀ {l : List ByteArray}, l.Pairwise leB → (insR x l).Pairwise leB
  | [], _ => by simp [insR]
  | e :: l, h => by
    rw [insR]
    rw [List.pairwise_cons] at h
    split
    · rename_i hx
      rw [List.pairwise_cons, List.pairwise_cons]
      refine ⟨fun y hy => ?_, h⟩
      rcases List.mem_cons.1 hy with rfl | hy
      · exact leB_of_lt hx
      · exact leB_trans (leB_of_lt hx) (h.1 y hy)
    · rename_i hx
      rw [List.pairwise_cons]
      refine ⟨fun y hy => ?_, insR_sorted x h.2⟩
      rcases List.mem_cons.1 ((insR_perm x l).subset hy) with rfl | hy
      · exact leB_of_not hx
      · exact h.1 y hy
theorem sortTo_sorted (l : List ByteArray) : ∀ k : Nat, (sortTo l k).Pairwise leB
  | 0 => .nil
  | k + 1 => by rw [sortTo, sEnd_ins]; exact insR_sorted _ (sortTo_sorted l k)
theorem sortB_perm (l : List ByteArray) : (sortB l).Perm l := by
  have h := ((List.mergeSort_perm (l.map fun s => s.data.toList) fun x y => decide (x ≤ y)).map fun t : List UInt8 => (⟨t.toArray⟩ : ByteArray))
  rw [List.map_map] at h
  have e : ((fun t : List UInt8 => (⟨t.toArray⟩ : ByteArray)) ∘ fun s : ByteArray => s.data.toList) = id := by
    funext s; simp
  rw [e, List.map_id] at h
  exact h
theorem sortB_sorted (l : List ByteArray) : (sortB l).Pairwise leB := by
  unfold sortB
  rw [List.pairwise_map]
  refine (List.pairwise_mergeSort (le := fun x y : List UInt8 => decide (x ≤ y)) ?_ ?_ _).imp ?_
  · intro a b c h k
    simp only [decide_eq_true_eq] at h k ⊢
    exact List.le_trans h k
  · intro a b
    simp only [Bool.or_eq_true, decide_eq_true_eq]
    exact List.le_total a b
  · intro a b h
    simpa [leB, tl] using h
theorem sort_unique {l m : List ByteArray} (hp : l.Perm m) (hl : l.Pairwise leB) (hm : m.Pairwise leB) : l = m :=
  List.Perm.eq_of_pairwise (fun a b _ _ h k => tl_inj (List.le_antisymm h k)) hl hm hp
theorem sorted_sortB (l : List ByteArray) : sortTo l l.length = sortB l :=
  sort_unique (((sortTo_perm l l.length (Nat.le_refl _)).trans (by rw [List.take_length])).trans (sortB_perm l).symm) (sortTo_sorted l _) (sortB_sorted l)
end Abs
end Go.Proofs.Ytmokoofibnoojaa

set_option linter.unusedVariables false
namespace Go.Proofs.Ytmokoofibnoojaa
namespace Abs

/-! ### an entry more: the plain law -/
theorem gtB_lt (name : ByteArray) (e : Ent) : gtB name e = decide (tl name < tl e.name) := by
  unfold gtB
  rw [bless]
  by_cases h : tl e.name < tl name
  · have : ¬ tl name < tl e.name := List.lt_asymm h
    simp [h, this]
  · by_cases h2 : e.name = name
    · subst h2
      simp [List.lt_irrefl]
    · have h3 : tl name < tl e.name := by
        rcases Decidable.em (tl name < tl e.name) with h4 | h4
        · exact h4
        · exact absurd (tl_inj (List.le_antisymm (List.not_lt.1 h4) (List.not_lt.1 h))) h2
      simp [h, h2, h3]
def insE (new : Ent) : List Ent → List Ent
  | [] => [new]
  | e :: l => if tl new.name < tl e.name then new :: e :: l else e :: insE new l
theorem insTo_fold (new : Ent) (l : List Ent) : ∀ k : Nat, k ≤ l.length → insTo new l k = (l.take k).foldl (insStep new) ([], false)
  | 0, _ => by simp [insTo]
  | k + 1, h => by
    have hk : k < l.length := h
    rw [insTo, insTo_fold new l k (by omega), List.take_add_one, List.getElem?_eq_getElem hk, Option.toList_some, List.foldl_append, List.getD_eq_getElem?_getD, List.getElem?_eq_getElem hk]
    rfl
theorem foldE_done (new : Ent) : ∀ (l A : List Ent), l.foldl (insStep new) (A, true) = (A ++ l, true)
  | [], A => by simp
  | e :: l, A => by
    rw [List.foldl_cons, show insStep new (A, true) e = (A ++ [e], true) by simp [insStep], foldE_done new l]
    simp
theorem foldE_ins (new : Ent) : ∀ (l A : List Ent), (if (l.foldl (insStep new) (A, false)).2 = true then (l.foldl (insStep new) (A, false)).1 else (l.foldl (insStep new) (A, false)).1 ++ [new]) = A ++ insE new l
  | [], A => by simp [insE]
  | e :: l, A => by
    rw [List.foldl_cons]
    by_cases h : tl new.name < tl e.name
    · rw [show insStep new (A, false) e = (A ++ [new] ++ [e], true) by simp [insStep, bless, h], foldE_done, if_pos rfl, insE, if_pos h]
      simp
    · rw [show insStep new (A, false) e = (A ++ [e], false) by simp [insStep, bless, h], foldE_ins new l, insE, if_neg h]
      simp
theorem insEnd_ins (new : Ent) (l : List Ent) : insEnd new l = insE new l := by
  have h := foldE_ins new l []
  rw [insEnd, insTo_fold new l l.length (Nat.le_refl _), List.take_length, h, List.nil_append]
theorem insE_cut (new : Ent) : ∀ l : List Ent, insE new l = l.take ((l.findIdx? (gtB new.name)).getD l.length) ++ [new] ++ l.drop ((l.findIdx? (gtB new.name)).getD l.length)
  | [] => rfl
  | e :: l => by
    rw [insE, List.findIdx?_cons, gtB_lt]
    by_cases h : tl new.name < tl e.name
    · rw [if_pos h, decide_eq_true h]; simp
    · rw [if_neg h, decide_eq_false h, insE_cut new l]
      cases hx : l.findIdx? (gtB new.name) with
      | none => simp
      | some k => simp
theorem rwith_eq (n : Node) (name : ByteArray) (id : Int) : rwithN n name id = n.withN name id := by
  unfold rwithN Node.withN
  split
  · rw [insEnd_ins, insE_cut]; rfl
  · rfl
end Abs
end Go.Proofs.Ytmokoofibnoojaa
