import Derived.Test.YtbldnaflffmddaaV4
import Derived.Test.YtbldnaflffmddaaM2
import Derived.Test.YtbldnaflffmddaaS1
import Derived.Test.YtbldnaflffmddaaL1
import Derived.Test.YtbldnaflffmddaaQ4
import Derived.Test.YtbldnaflffmddaaQ1
set_option linter.unusedVariables false
namespace Go.Proofs.Ytbldnaflffmddaa
namespace Abs

/-! ### sorting by insertion is sorting: the plain law -/
def insR (x : ByteArray) : List ByteArray → List ByteArray
  | [] => [x]
  | e :: l => if tl x < tl e then x :: e :: l else e :: insR x l
theorem sTo_fold (x : ByteArray) (l : List ByteArray) : ∀ k : Nat, k ≤ l.length → sTo x l k = (l.take k).foldl (sStep x) ([], false)
  | 0, _ => by simp [sTo]
  | k + 1, h => by
    have hk : k < l.length := h
    rw [sTo, sTo_fold x l k (by omega), List.take_add_one, List.getElem?_eq_getElem hk, Option.toList_some, List.foldl_append, List.getD_eq_getElem?_getD, List.getElem?_eq_getElem hk]
    rfl
theorem fold_done (x : ByteArray) : ∀ (l A : List ByteArray), l.foldl (sStep x) (A, true) = (A ++ l, true)
  | [], A => by simp
  | e :: l, A => by
    rw [List.foldl_cons, show sStep x (A, true) e = (A ++ [e], true) by simp [sStep], fold_done x l]
    simp
theorem fold_ins (x : ByteArray) : ∀ (l A : List ByteArray), (if (l.foldl (sStep x) (A, false)).2 = true then (l.foldl (sStep x) (A, false)).1 else (l.foldl (sStep x) (A, false)).1 ++ [x]) = A ++ insR x l
  | [], A => by simp [insR]
  | e :: l, A => by
    rw [List.foldl_cons]
    by_cases h : tl x < tl e
    · rw [show sStep x (A, false) e = (A ++ [x] ++ [e], true) by simp [sStep, bless, h], fold_done, if_pos rfl, insR, if_pos h]
      simp
    · rw [show sStep x (A, false) e = (A ++ [e], false) by simp [sStep, bless, h], fold_ins x l, insR, if_neg h]
      simp
theorem sEnd_ins (x : ByteArray) (l : List ByteArray) : sEnd x l = insR x l := by
  have h := fold_ins x l []
  rw [sEnd, sTo_fold x l l.length (Nat.le_refl _), List.take_length, h, List.nil_append]
theorem insR_perm (x : ByteArray) : ∀ l : List ByteArray, (insR x l).Perm (x :: l)
  | [] => .refl _
  | e :: l => by
    rw [insR]
    split
    · exact .refl _
    · exact ((insR_perm x l).cons e).trans (.swap x e l)
theorem sortTo_perm (l : List ByteArray) : ∀ k : Nat, k ≤ l.length → (sortTo l k).Perm (l.take k)
  | 0, _ => by simp [sortTo]
  | k + 1, h => by
    have hk : k < l.length := h
    rw [sortTo, sEnd_ins, List.take_add_one, List.getElem?_eq_getElem hk, Option.toList_some, List.getD_eq_getElem?_getD, List.getElem?_eq_getElem hk, Option.getD_some]
    exact ((insR_perm _ _).trans ((sortTo_perm l k (by omega)).cons _)).trans (List.perm_append_comm (l₁ := [l[k]]) (l₂ := l.take k))
def leB (a b : ByteArray) : Prop := tl a ≤ tl b
theorem leB_trans {a b c : ByteArray} (h : leB a b) (k : leB b c) : leB a c := List.le_trans h k
theorem leB_of_lt {a b : ByteArray} (h : tl a < tl b) : leB a b := List.le_of_lt h
theorem leB_of_not {a b : ByteArray} (h : ¬ tl a < tl b) : leB b a := List.not_lt.1 h
theorem insR_sorted (x : ByteArray) : ∀ {l : List ByteArray}, l.Pairwise leB → (insR x l).Pairwise leB
  | [], _ => by simp [insR]
  | e :: l, h => by
    rw [insR]
    rw [List.pairwise_cons] at h
    split
    · rename_i hx
      rw [List.pairwise_cons, List.pairwise_cons]
      refine ⟨fun y hy => ?_, h⟩
      rcases List.mem_cons.1 hy with rfl | hy
      · exact leB_of_lt hx
      · exact leB_trans (leB_of_lt hx) (h.1 y hy)
    · rename_i hx
      rw [List.pairwise_cons]
      refine ⟨fun y hy => ?_, insR_sorted x h.2⟩
      rcases List.mem_cons.1 ((insR_perm x l).subset hy) with rfl | hy
      · exact leB_of_not hx
      · exact h.1 y hy
theorem sortTo_sorted (l : List ByteArray) : ∀ k : Nat, (sortTo l k).Pairwise leB
  | 0 => .nil
  | k + 1 => by rw [sortTo, sEnd_ins]; exact insR_sorted _ (sortTo_sorted l k)
theorem sortB_perm (l : List ByteArray) : (sortB l).Perm l := by
  have h := ((List.mergeSort_perm (l.map fun s => s.data.toList) fun x y => decide (x ≤ y)).map fun t : List UInt8 => (⟨t.toArray⟩ : ByteArray))
  rw [List.map_map] at h
  have e : ((fun t : List UInt8 => (⟨t.toArray⟩ : ByteArray)) ∘ fun s : ByteArray => s.data.toList) = id := by
    funext s; simp
  rw [e, List.map_id] at h
  exact h
theorem sortB_sorted (l : List ByteArray) : (sortB l).Pairwise leB := by
  unfold sortB
  rw [List.pairwise_map]
  refine (List.pairwise_mergeSort (le := fun x y : List UInt8 => decide (x ≤ y)) ?_ ?_ _).imp ?_
  · intro a b c h k
    simp only [decide_eq_true_eq] at h k ⊢
    exact List.le_trans h k
  · intro a b
    simp only [Bool.or_eq_true, decide_eq_true_eq]
    exact List.le_total a b
  · intro a b h
    simpa [leB, tl] using h
theorem sort_unique {l m : List ByteArray} (hp : l.Perm m) (hl : l.Pairwise leB) (hm : m.Pairwise leB) : l = m :=
  List.Perm.eq_of_pairwise (fun a b _ _ h k => tl_inj (List.le_antisymm h k)) hl hm hp
theorem sorted_sortB (l : List ByteArray) : sortTo l l.length = sortB l :=
  sort_unique (((sortTo_perm l l.length (Nat.le_refl _)).trans (by rw [List.take_length])).trans (sortB_perm l).symm) (sortTo_sorted l _) (sortB_sorted l)
end Abs
end Go.Proofs.Ytbldnaflffmddaa

set_option linter.unusedVariables false
namespace Go.Proofs.Ytbldnaflffmddaa
namespace Abs

/-! ### an entry more: the plain law -/
end Abs
end Go.Proofs.Ytbldnaflffmddaa

set_option linter.unusedVariables false
namespace Go.Proofs.Ytbldnaflffmddaa
namespace Abs
set_option linter.unusedSimpArgs false
set_option maxRecDepth 10000
set_option maxHeartbeats 2000000
attribute [local irreducible] AOps AW AP ACalls thenQ inBlk noGoto

/-! ### chapter 08: the document's example -/
end Abs
end Go.Proofs.Ytbldnaflffmddaa

set_option linter.unusedVariables false
namespace Go.Proofs.Ytbldnaflffmddaa
namespace Abs
set_option linter.unusedSimpArgs false
set_option maxRecDepth 10000
set_option maxHeartbeats 2000000
attribute [local irreducible] AOps AW AP ACalls thenQ inBlk noGoto

/-! ### NodeRight, NodeChanges -/
end Abs
end Go.Proofs.Ytbldnaflffmddaa
