import Derived.Test.YtpifnlodilcgkaaZ1
import Derived.Test.YtpifnlodilcgkaaY1
set_option linter.unusedVariables false
namespace Go.Proofs.Ytpifnlodilcgkaa
namespace Abs
set_option maxRecDepth 10000
attribute [local irreducible] AOps AW ACalls thenQ inBlk noGoto

/-! ### BuildRight: the plain law -/
def cntN (l : List Raw) : Nat := (l.filter fun r => decide (¬ r.kind = 4)).length
theorem cntN_cons (r : Raw) (l : List Raw) : cntN (r :: l) = cntN l + if r.kind = 4 then 0 else 1 := by
  unfold cntN
  by_cases h : r.kind = 4
  · rw [List.filter_cons_of_neg (by simp [h]), if_pos h]; rfl
  · rw [List.filter_cons_of_pos (by simp [h]), if_neg h]; rfl
def Tab.sumL (T : Tab) : Nat → Int
  | 0 => 0
  | k + 1 => T.sumL k + T.links ((k : Int) + 1)
theorem sumL_zero {T : Tab} (h : ∀ i, T.links i = 0) : ∀ k, T.sumL k = 0
  | 0 => rfl
  | k + 1 => by rw [Tab.sumL, sumL_zero h k, h]; rfl
theorem sumL_one {T U : Tab} {x : Int} (h1 : 1 ≤ x) (h : ∀ i, U.links i = T.links i + if i = x then 1 else 0) : ∀ k : Nat, U.sumL k = T.sumL k + if x ≤ k then 1 else 0
  | 0 => by rw [if_neg (by omega)]; rfl
  | k + 1 => by
    rw [Tab.sumL, Tab.sumL, sumL_one h1 h k, h]
    split <;> split <;> split <;> omega
theorem bt_cnt {T : Tab} {m : Int} (h : BT T m) : ∀ k : Nat, T.cnt k = if (k : Int) ≤ m then (k : Int) else m
  | 0 => by rw [if_pos (by have := h.pos; omega)]; rfl
  | k + 1 => by
    have ih := bt_cnt h k
    have hp := h.pos
    simp only [Tab.cnt]
    rw [ih]
    by_cases e : (k : Int) + 1 ≤ m
    · rw [(h.has _).2 ⟨by omega, e⟩]
      simp only [if_true]
      rw [if_pos (by omega), if_pos (by omega)]; omega
    · have : T.has ((k : Int) + 1) = false := by
        cases hh : T.has ((k : Int) + 1) with
        | false => rfl
        | true => have := (h.has _).1 hh; omega
      rw [this]
      simp only [Bool.false_eq_true, if_false]
      rw [if_neg (show ¬ (((k + 1 : Nat) : Int) ≤ m) by omega)]
      split <;> omega
theorem bt_used {T : Tab} {m : Int} (h : BT T m) : T.used = m := by
  have hr := h.room
  have hp := h.pos
  unfold Tab.used
  rw [bt_cnt h]
  split <;> omega
theorem bt_one_rng {T : Tab} {m : Int} (h : BT T m) {r : Raw} (he : (r.one T).2 = 0) : 2 ≤ (if r.kind = 4 then r.node else m + 1) ∧ (if r.kind = 4 then r.node else m + 1) ≤ 24 := by
  obtain ⟨h1, h2, h3, h4⟩ := bt_one h he
  generalize (if r.kind = 4 then r.node else m + 1) = x at h2 ⊢
  have hp : 0 < (r.one T).1.links x := by rw [h2, if_pos rfl]; have := links_nonneg T x; omega
  obtain ⟨d, hd⟩ := (links_pos h1.good.wf).1 hp
  have := h1.ents d x hd
  have hr := h1.room
  have h24 := h1.good.wf.2.1
  omega
theorem bt_from2 : ∀ {l : List Raw} {T : Tab} {i m : Int}, BT T m → ∀ {T'}, (buildFrom T i l).1 = some T' → BT T' (m + cntN l) ∧ T'.sumL 24 = T.sumL 24 + l.length ∧ T'.room = T.room
  | [], T, i, m, h, T', e => by
    cases e
    exact ⟨by rw [show cntN [] = 0 from rfl]; simpa using h, by simp, rfl⟩
  | r :: l, T, i, m, h, T', e => by
    rw [buildFrom_cons] at e
    split at e
    · rename_i h0
      obtain ⟨h1, h2, h3, h4⟩ := bt_one h h0
      have hx := bt_one_rng h h0
      obtain ⟨g1, g2, g3⟩ := bt_from2 h1 e
      refine ⟨?_, ?_, g3.trans h4⟩
      · rw [cntN_cons]
        by_cases hk : r.kind = 4
        · rw [if_pos hk] at g1 ⊢; exact g1
        · rw [if_neg hk] at g1 ⊢
          rw [show m + ((cntN l + 1 : Nat) : Int) = m + 1 + (cntN l : Int) by omega]; exact g1
      · rw [g2, sumL_one (by omega) h2 24, if_pos (by omega), List.length_cons]; omega
    · cases e
theorem bt_build2 {room : Int} {l : List Raw} {T : Tab} (h : (build room l).1 = some T) : BT T (cntN l) ∧ T.sumL 24 + 1 = l.length ∧ T.room = (Tab.new room).room := by
  cases l with
  | nil => cases h
  | cons r l =>
    rw [build_cons] at h
    split at h
    · cases h
    · rename_i h0
      split at h
      · cases h
      · rename_i h1
        have hk : r.kind = 2 := Decidable.of_not_not (fun q => h0 (.inl q))
        obtain ⟨f1, f2, f3⟩ := bt_first hk (Decidable.of_not_not h1)
        obtain ⟨g1, g2, g3⟩ := bt_from2 f1 h
        refine ⟨?_, ?_, g3.trans f3⟩
        · rw [cntN_cons, if_neg (by omega), show (((cntN l + 1 : Nat) : Int)) = 1 + (cntN l : Int) by omega]; exact g1
        · rw [g2, sumL_zero f2, List.length_cons]; omega
end Abs
end Go.Proofs.Ytpifnlodilcgkaa
