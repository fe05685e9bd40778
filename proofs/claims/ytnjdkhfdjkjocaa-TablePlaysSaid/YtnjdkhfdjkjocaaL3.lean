import Derived.Test.YtnjdkhfdjkjocaaL2
set_option linter.unusedVariables false
namespace Go.Proofs.Ytnjdkhfdjkjocaa
namespace Abs
set_option maxRecDepth 10000
attribute [local irreducible] AOps AW ACalls thenQ inBlk noGoto

/-! ### what a table counts -/
def b2i (b : Bool) : Int := if b then 1 else 0
theorem has_put {T : Tab} (hl : T.nodes.length = 24) {k : Nat} (hk : k < 24) (n : Node) (j : Nat) : (T.put k n).has (j + 1) = if j = k then decide ((k : Int) < T.room) && !decide (n.kind = 0) else T.has (j + 1) := by
  unfold Tab.has Tab.put
  simp only [show ((j : Int) + 1 - 1).toNat = j by omega, decide_eq_true (show (1 : Int) ≤ (j : Int) + 1 by omega), Bool.true_and]
  by_cases h : j = k
  · subst h
    rw [if_pos rfl, List.getD_eq_getElem?_getD, List.getElem?_set_self (by omega)]
    rfl
  · rw [if_neg h, List.getD_eq_getElem?_getD, List.getElem?_set_ne (Ne.symm h), ← List.getD_eq_getElem?_getD]
theorem cnt_succ (T : Tab) (k : Nat) : T.cnt (k + 1) = T.cnt k + b2i (T.has (k + 1)) := by simp only [Tab.cnt, b2i]
theorem cnt_put {T : Tab} (hl : T.nodes.length = 24) {k : Nat} (hk : k < 24) (n : Node) : ∀ m : Nat, (T.put k n).cnt m = T.cnt m + if k < m then b2i ((T.put k n).has (k + 1)) - b2i (T.has (k + 1)) else 0
  | 0 => by simp [Tab.cnt]
  | m + 1 => by
    rw [cnt_succ, cnt_succ, cnt_put hl hk n m]
    by_cases h : m = k
    · subst h; simp; omega
    · rw [has_put hl hk n m, if_neg h]
      by_cases h2 : k < m
      · rw [if_pos h2, if_pos (by omega)]; omega
      · rw [if_neg h2, if_neg (by omega)]; omega
theorem used_put {T : Tab} (hw : T.wf) {k : Nat} (hk : (k : Int) < T.room) (n : Node) : (T.put k n).used = T.used + (b2i (!decide (n.kind = 0)) - b2i (T.has (k + 1))) := by
  have hk24 : k < 24 := by have := hw.2.1; omega
  unfold Tab.used
  rw [cnt_put hw.1 hk24 n, has_put hw.1 hk24 n k, if_pos rfl, decide_eq_true hk, Bool.true_and, if_pos (by show k < T.room.toNat; omega)]
  rfl
theorem cnt_all {T : Tab} : ∀ m : Nat, (∀ j : Nat, j < m → T.has (j + 1) = true) → T.cnt m = m
  | 0, _ => rfl
  | m + 1, h => by
    rw [cnt_succ, cnt_all m (fun j hj => h j (by omega)), h m (by omega)]
    simp [b2i]
theorem used_all {T : Tab} (hw : T.wf) (h : ∀ j : Nat, (j : Int) < T.room → T.has (j + 1) = true) : T.used = T.room := by
  have := hw.2.1
  unfold Tab.used
  rw [cnt_all _ (fun j hj => h j (by omega))]
  omega
theorem ok_kind {n : Node} (h : nodeOk n = true) : n.kind ≠ 0 := by
  intro e
  simp [nodeOk, e] at h

/-! ### the numbers that are used, as the law keeps them -/
def Track (T : Tab) (U : List Bool) : Prop := U.length = 26 ∧ ∀ j : Nat, j < 24 → U[j + 1]? = some (T.has (j + 1))
theorem track_put {T : Tab} (hw : T.wf) {U : List Bool} (h : Track T U) {k : Nat} (hk : (k : Int) < T.room) (n : Node) : Track (T.put k n) (U.set (k + 1) (!decide (n.kind = 0))) := by
  have hk24 : k < 24 := by have := hw.2.1; omega
  refine ⟨by simp [h.1], fun j hj => ?_⟩
  rw [has_put hw.1 hk24 n j]
  by_cases e : j = k
  · subst e
    rw [if_pos rfl, decide_eq_true hk, Bool.true_and, List.getElem?_set_self (by have := h.1; omega)]
  · rw [if_neg e, List.getElem?_set_ne (by omega), h.2 j hj]
theorem track_new (room : Int) : Track (Tab.new room) (List.replicate 26 false) := by
  refine ⟨by simp, fun j hj => ?_⟩
  rw [List.getElem?_replicate, if_pos (by omega)]
  congr 1
  unfold Tab.has Tab.new
  rw [List.getD_eq_getElem?_getD, List.getElem?_replicate]
  split <;> simp [Node.zero]
theorem used_new (room : Int) : (Tab.new room).used = 0 := by
  have : ∀ m : Nat, (Tab.new room).cnt m = 0 := by
    intro m
    induction m with
    | zero => rfl
    | succ m ih =>
      rw [cnt_succ, ih]
      have : (Tab.new room).has (m + 1) = false := by
        unfold Tab.has Tab.new
        rw [List.getD_eq_getElem?_getD, List.getElem?_replicate]
        split <;> simp [Node.zero]
      rw [this]; rfl
  exact this _
end Abs
end Go.Proofs.Ytnjdkhfdjkjocaa
