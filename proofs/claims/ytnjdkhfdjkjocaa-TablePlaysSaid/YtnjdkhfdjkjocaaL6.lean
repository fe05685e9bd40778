import Derived.Test.YtnjdkhfdjkjocaaT4
import Derived.Test.YtnjdkhfdjkjocaaL1
set_option linter.unusedVariables false
namespace Go.Proofs.Ytnjdkhfdjkjocaa
namespace Abs
set_option maxRecDepth 10000
attribute [local irreducible] AOps AW ACalls thenQ inBlk noGoto

/-! ### all entries, and all links: the plain law -/
def Tab.all (T : Tab) : Nat → List Int
  | 0 => []
  | k + 1 => T.all k ++ (T.nd k).ents.map (·.node)
def Tab.lsum (T : Tab) : Nat → Int
  | 0 => 0
  | k + 1 => T.lsum k + if T.has (k + 1) then T.links (k + 1) else 0
def cnt (i : Int) (A : List Int) : Nat := (A.filter fun a => decide (a = i)).length
theorem cnt_append (i : Int) (A B : List Int) : cnt i (A ++ B) = cnt i A + cnt i B := by simp [cnt]
theorem tells_cnt (T : Tab) (i : Int) : ∀ k : Nat, (T.tells i k).length = cnt i (T.all k)
  | 0 => rfl
  | k + 1 => by
    simp only [Tab.tells, Tab.all, List.length_append, cnt_append, tells_cnt T i k]
    congr 1
    unfold Tab.nd
    split
    · simp only [Tab.tellsOf, List.length_map, cnt, List.filter_map]
      rfl
    · rfl
theorem nd_beyond {T : Tab} {k : Nat} (h : ¬ (k : Int) < T.room) : T.nd k = Node.zero := by
  unfold Tab.nd
  have : T.has (k + 1) = false := by
    unfold Tab.has
    rw [decide_eq_false (show ¬ (k : Int) + 1 ≤ T.room by omega)]
    simp
  rw [this]; rfl
theorem all_beyond {T : Tab} (hw : T.wf) : ∀ k : Nat, T.room.toNat ≤ k → T.all k = T.all T.room.toNat
  | 0, h => by have := hw.2.1; omega
  | k + 1, h => by
    rcases Nat.lt_or_ge k T.room.toNat with h' | h'
    · have : k + 1 = T.room.toNat := by omega
      rw [this]
    · simp only [Tab.all]
      rw [nd_beyond (by have := hw.2.1; omega), all_beyond hw k h']
      simp [Node.zero]
theorem links_cnt {T : Tab} (hw : T.wf) (i : Int) : T.links i = cnt i (T.all 24) := by
  unfold Tab.links
  rw [tells_cnt, all_beyond hw 24 (by have := hw.2.1; omega)]
def hsum (T : Tab) (A : List Int) : Nat → Int
  | 0 => 0
  | k + 1 => hsum T A k + if T.has (k + 1) then (cnt (k + 1) A : Int) else 0
theorem lsum_hsum {T : Tab} (hw : T.wf) : ∀ m : Nat, T.lsum m = hsum T (T.all 24) m
  | 0 => rfl
  | m + 1 => by simp only [Tab.lsum, hsum, lsum_hsum hw m, links_cnt hw]
theorem hsum_cons (T : Tab) (a : Int) (A : List Int) : ∀ m : Nat, hsum T (a :: A) m = hsum T A m + if T.has a ∧ 1 ≤ a ∧ a ≤ m then 1 else 0
  | 0 => by simp only [hsum]; rw [if_neg (by omega)]; rfl
  | m + 1 => by
    simp only [hsum, hsum_cons T a A m]
    by_cases h : a = (m : Int) + 1
    · have e : cnt ((m : Int) + 1) (a :: A) = cnt ((m : Int) + 1) A + 1 := by simp [cnt, h]
      rw [e, if_neg (show ¬ (T.has a = true ∧ 1 ≤ a ∧ a ≤ (m : Int)) by omega)]
      subst h
      cases hh : T.has ((m : Int) + 1) with
      | true =>
        rw [if_pos rfl, if_pos rfl, if_pos (show true = true ∧ 1 ≤ (m : Int) + 1 ∧ (m : Int) + 1 ≤ ((m + 1 : Nat) : Int) from ⟨rfl, by omega, by omega⟩)]
        omega
      | false =>
        rw [if_neg (by decide), if_neg (by decide), if_neg (show ¬ (false = true ∧ 1 ≤ (m : Int) + 1 ∧ (m : Int) + 1 ≤ ((m + 1 : Nat) : Int)) from fun h => by cases h.1)]
    · have e : cnt ((m : Int) + 1) (a :: A) = cnt ((m : Int) + 1) A := by simp [cnt, h]
      rw [e]
      by_cases h2 : T.has a = true ∧ 1 ≤ a ∧ a ≤ (m : Int)
      · rw [if_pos h2, if_pos (show T.has a = true ∧ 1 ≤ a ∧ a ≤ ((m + 1 : Nat) : Int) from ⟨h2.1, h2.2.1, by omega⟩)]
        omega
      · rw [if_neg h2, if_neg (show ¬ (T.has a = true ∧ 1 ≤ a ∧ a ≤ ((m + 1 : Nat) : Int)) from fun h3 => h2 ⟨h3.1, h3.2.1, by omega⟩)]
        omega
theorem hsum_le (T : Tab) : ∀ A : List Int, hsum T A 24 ≤ A.length ∧ (A.all T.has = true → (∀ a ∈ A, T.has a = true → 1 ≤ a ∧ a ≤ 24) → hsum T A 24 = A.length)
  | [] => by
    have : ∀ m, hsum T [] m = 0 := by
      intro m
      induction m with
      | zero => rfl
      | succ m ih => simp [hsum, ih, cnt]
    rw [this]
    exact ⟨Int.le_refl _, fun _ _ => rfl⟩
  | a :: A => by
    obtain ⟨h1, h2⟩ := hsum_le T A
    rw [hsum_cons]
    simp only [List.length_cons]
    refine ⟨by split <;> omega, fun h3 h4 => ?_⟩
    simp only [List.all_cons, Bool.and_eq_true] at h3
    obtain ⟨h5, h6⟩ := h4 a List.mem_cons_self h3.1
    rw [if_pos ⟨h3.1, h5, by omega⟩, h2 h3.2 (fun x hx => h4 x (List.mem_cons_of_mem _ hx))]
    omega
theorem counts_law {T : Tab} (hw : T.wf) : T.lsum 24 ≤ (T.all 24).length ∧ ((T.all 24).all T.has = true → T.lsum 24 = (T.all 24).length) := by
  rw [lsum_hsum hw]
  refine ⟨(hsum_le T _).1, fun h => (hsum_le T _).2 h (fun a _ ha => ?_)⟩
  have := has_lt hw ha
  have := hw.2.1
  omega
theorem parent_zero (T : Tab) (i : Int) : decide (T.parent i = 0) = decide (T.links i = 0) := by
  unfold Tab.parent Tab.links
  have h := tells_ne T i T.room.toNat
  cases hx : T.tells i T.room.toNat with
  | nil => rfl
  | cons x l =>
    have h1 : x ≠ 0 := h x (by rw [hx]; exact List.mem_cons_self)
    have h2 : ¬ (((x :: l).length : Nat) : Int) = 0 := by simp only [List.length_cons]; omega
    simp only [List.headD_cons, decide_eq_false h2]
    exact decide_eq_false h1
theorem all_len {T : Tab} (hw : T.wf) : ∀ k : Nat, (T.all k).length ≤ k * 1073741824
  | 0 => by simp [Tab.all]
  | k + 1 => by
    have := all_len hw k
    have := (nd_small hw k).2
    simp only [Tab.all, List.length_append, List.length_map]
    omega
theorem links_le {T : Tab} (hw : T.wf) (i : Int) : 0 ≤ T.links i ∧ T.links i ≤ 25769803776 := by
  have h := tells_len hw i T.room.toNat
  have := hw.2.1
  unfold Tab.links
  omega
theorem lsum_le {T : Tab} (hw : T.wf) : ∀ k : Nat, 0 ≤ T.lsum k ∧ T.lsum k ≤ k * 25769803776
  | 0 => by simp [Tab.lsum]
  | k + 1 => by
    have := lsum_le hw k
    have := links_le hw (k + 1)
    simp only [Tab.lsum]
    split <;> omega
end Abs
end Go.Proofs.Ytnjdkhfdjkjocaa
