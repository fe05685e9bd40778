import Derived.Test.YtpifnlodilcgkaaIE
import Derived.Test.YtpifnlodilcgkaaS1
set_option linter.unusedVariables false
namespace Go.Proofs.Ytpifnlodilcgkaa
namespace Abs
set_option maxRecDepth 10000
attribute [local irreducible] AOps AW ACalls thenQ inBlk noGoto

/-! ### BuildRoom: the plain law -/
theorem same_at {T U : Tab} (h : ∀ i, U.at i = T.at i) : U.same T = true := by
  unfold Tab.same
  suffices hk : ∀ k, U.sameTo T k = true from hk 24
  intro k
  induction k with
  | zero => rfl
  | succ k ih =>
    have e : U.nd k = T.nd k := h ((k : Int) + 1)
    simp only [Tab.sameTo, ih, e, same_refl, Bool.and_self]
theorem has_at {T U : Tab} (h : ∀ i, U.at i = T.at i) (i : Int) : U.has i = T.has i := by
  have h1 := has_kind' (T := U) (d := i)
  have h2 := has_kind' (T := T) (d := i)
  rw [h] at h1
  cases hu : U.has i <;> cases ht : T.has i <;> simp_all
theorem free_bt1 {T : Tab} {m : Int} (h : BT T m) (hm : m < T.room) : T.free = some m.toNat := by
  have hp := h.pos
  refine free_some (by omega) (fun j hj => (h.has _).2 ⟨by omega, by omega⟩) ?_
  cases hh : T.has ((m.toNat : Int) + 1) with
  | false => rfl
  | true => have := (h.has _).1 hh; omega
theorem free_bt0 {T : Tab} {m : Int} (h : BT T m) (hm : T.room ≤ m) : T.free = none := free_none fun j hj => (h.has _).2 ⟨by omega, by omega⟩
theorem one_sim {T U : Tab} {m : Int} (h : BT T m) (hu : BT U m) (ha : ∀ i, U.at i = T.at i) {r : Raw} (he : (r.one T).2 = 0) :
    (r.kind = 4 ∨ m < U.room → (r.one U).2 = 0 ∧ ∀ i, (r.one U).1.at i = (r.one T).1.at i) ∧ (¬ r.kind = 4 → U.room ≤ m → (r.one U).2 = 28) := by
  unfold Raw.one at he ⊢
  by_cases hp : T.has r.parent = true
  case neg => rw [if_neg hp] at he; cases he
  have hpu : U.has r.parent = true := by rw [has_at ha]; exact hp
  rw [if_pos hp] at he
  rw [if_pos hp, if_pos hpu]
  have hpr := (h.has _).1 hp
  by_cases h0 : (r.told T).2.2 = 0
  case neg => rw [if_pos h0] at he; exact absurd he h0
  rw [if_neg (fun q => q h0)] at he
  by_cases hk4 : r.kind = 4
  · have ht : ∀ V : Tab, r.told V = if V.has r.node = true then (if (V.get r.node).kind = 2 then (V, 0, 1) else (V, r.node, 0)) else (V, 0, 2) := fun V => by
      unfold Raw.told; rw [if_neg (fun q => q hk4)]
    by_cases hn : T.has r.node = true
    case neg => rw [ht, if_neg hn] at h0; cases h0
    have hnu : U.has r.node = true := by rw [has_at ha]; exact hn
    by_cases hk2 : (T.get r.node).kind = 2
    · rw [ht, if_pos hn, if_pos hk2] at h0; cases h0
    have hk2u : ¬ (U.get r.node).kind = 2 := by rw [← at_has hnu, ha, at_has hn]; exact hk2
    have htT : r.told T = (T, r.node, 0) := by rw [ht, if_pos hn, if_neg hk2]
    have htU : r.told U = (U, r.node, 0) := by rw [ht, if_pos hnu, if_neg hk2u]
    rw [htT] at he ⊢
    rw [htU]
    simp only [not_true_eq_false, if_false] at he ⊢
    by_cases hw0 : (T.at r.parent).withE r.name r.node = 0
    case neg => rw [if_pos hw0] at he; exact absurd he hw0
    have hwu : (U.at r.parent).withE r.name r.node = 0 := by rw [ha]; exact hw0
    rw [if_neg (fun q => q hwu), if_neg (fun q => q hw0)]
    obtain ⟨q1, -, -, q4, -, -⟩ := put_with h.good hp hw0
    obtain ⟨p1, -, -, p4, -, -⟩ := put_with hu.good hpu hwu
    rw [q1, p1]
    refine ⟨fun _ => ⟨rfl, fun i => ?_⟩, fun q => absurd hk4 q⟩
    simp only
    rw [p4, q4, ha, ha]
  · have ht : ∀ V : Tab, r.told V = V.add r.made := fun V => by unfold Raw.told; rw [if_pos hk4]
    rw [ht] at h0 he ⊢
    rw [ht]
    obtain ⟨a1, a2, a3, a4, a5, -, -⟩ := bt_add h h0
    rw [a3] at he ⊢
    simp only [not_true_eq_false, if_false] at he ⊢
    have hne : r.parent ≠ m + 1 := by omega
    refine ⟨fun hor => ?_, fun _ hfull => ?_⟩
    · have hlt : m < U.room := hor.resolve_left hk4
      have hu0 : (U.add r.made).2.2 = 0 := by unfold Tab.add; rw [if_pos a2, free_bt1 hu hlt]
      obtain ⟨b1, -, b3, b4, b5, -, -⟩ := bt_add hu hu0
      rw [b3]
      simp only [not_true_eq_false, if_false]
      have hat : ∀ i, (U.put m.toNat r.made).at i = (T.put m.toNat r.made).at i := fun i => by rw [b5, a5, ha]
      have hp1 : (T.put m.toNat r.made).has r.parent = true := has_kind'.2 (by rw [a5, if_neg hne]; exact has_kind'.1 hp)
      have hp1u : (U.put m.toNat r.made).has r.parent = true := by rw [has_at hat]; exact hp1
      by_cases hw0 : ((T.put m.toNat r.made).at r.parent).withE r.name (m + 1) = 0
      case neg => rw [if_pos hw0] at he; exact absurd he hw0
      have hwu : ((U.put m.toNat r.made).at r.parent).withE r.name (m + 1) = 0 := by rw [hat]; exact hw0
      rw [if_neg (fun q => q hwu), if_neg (fun q => q hw0)]
      obtain ⟨q1, -, -, q4, -, -⟩ := put_with a4 hp1 hw0
      obtain ⟨p1, -, -, p4, -, -⟩ := put_with b4 hp1u hwu
      rw [q1, p1]
      refine ⟨rfl, fun i => ?_⟩
      simp only
      rw [p4, q4, hat, hat]
    · have hua : U.add r.made = (U, 0, 28) := by unfold Tab.add; rw [if_pos a2, free_bt0 hu hfull]
      rw [hua]
      show (if ¬ (28 : Int) = 0 then (U, (28 : Int)) else _).2 = 28
      rw [if_pos (by decide)]
theorem from_sim : ∀ {l : List Raw} {T U : Tab} {i m : Int}, BT T m → BT U m → (∀ i, U.at i = T.at i) → 0 ≤ i → ∀ {T'}, (buildFrom T i l).1 = some T' →
    (m + cntN l ≤ U.room → ∃ U', (buildFrom U i l).1 = some U' ∧ ∀ j, U'.at j = T'.at j) ∧ (U.room < m + cntN l → (buildFrom U i l).1 = none ∧ 0 < (buildFrom U i l).2.1 ∧ (buildFrom U i l).2.2 = 28)
  | [], T, U, i, m, h, hu, ha, hi, T', e => by
    cases e
    refine ⟨fun _ => ⟨U, rfl, ha⟩, fun q => ?_⟩
    have := hu.room
    rw [show cntN [] = 0 from rfl] at q
    omega
  | r :: l, T, U, i, m, h, hu, ha, hi, T', e => by
    rw [buildFrom_cons] at e ⊢
    split at e
    case isFalse => cases e
    rename_i h0
    obtain ⟨s1, s2⟩ := one_sim h hu ha h0
    have hb1 := (bt_one h h0).1
    have hur := hu.room
    rw [cntN_cons]
    by_cases hor : r.kind = 4 ∨ m < U.room
    · obtain ⟨g1, g2⟩ := s1 hor
      obtain ⟨k1, -, -, k4⟩ := bt_one hu g1
      have hs := from_sim hb1 k1 g2 (show 0 ≤ i + 1 by omega) e
      rw [k4] at hs
      rw [if_pos g1]
      by_cases hk : r.kind = 4
      · rw [if_pos hk] at hs ⊢; exact hs
      · rw [if_neg hk] at hs ⊢
        rw [show m + ((cntN l + 1 : Nat) : Int) = m + 1 + (cntN l : Int) by omega]; exact hs
    · have hk : ¬ r.kind = 4 := fun q => hor (.inl q)
      have hf : U.room ≤ m := by have : ¬ m < U.room := fun q => hor (.inr q); omega
      have e28 := s2 hk hf
      rw [if_neg hk, if_neg (by rw [e28]; decide)]
      refine ⟨fun q => by omega, fun _ => ⟨rfl, by show 0 < i + 1; omega, e28⟩⟩
theorem build_sim {l : List Raw} {T : Tab} (h : (build 24 l).1 = some T) (R : Int) (hR : 1 ≤ R) :
    (T.used ≤ min R 24 → ∃ U, (build R l).1 = some U ∧ U.same T = true) ∧ (min R 24 < T.used → (build R l).1 = none ∧ 0 < (build R l).2.1 ∧ (build R l).2.2 = 28) := by
  have hb := bt_build2 h
  rw [bt_used hb.1]
  have hc := hb.1.pos
  cases l with
  | nil => cases h
  | cons r l =>
    rw [build_cons] at h ⊢
    split at h
    · cases h
    · rename_i h0
      rw [if_neg h0]
      split at h
      · cases h
      · rename_i h1
        have hk : r.kind = 2 := Decidable.of_not_not (fun q => h0 (.inl q))
        have h1' := Decidable.of_not_not h1
        obtain ⟨f1, f2, f3⟩ := bt_first hk h1'
        have hok : nodeOk r.made = true := by
          unfold Tab.add at h1'
          by_cases q : nodeOk r.made = true
          · exact q
          · rw [if_neg q] at h1'; cases h1'
        have hz : ∀ V, (Tab.new V).free = some 0 := fun V => by
          have h24 := (new_wf V).2.1
          refine free_some (by omega) (fun j hj => absurd hj (Nat.not_lt_zero _)) ?_
          cases hh : (Tab.new V).has (((0 : Nat) : Int) + 1) with
          | false => rfl
          | true =>
            have := has_kind'.1 hh
            rw [at_nd (by omega), nd_new] at this
            exact absurd rfl this
        have hadd : ∀ V, (Tab.new V).add r.made = ((Tab.new V).put 0 r.made, 1, 0) := fun V => by
          unfold Tab.add; rw [if_pos hok, hz]; rfl
        have hU0 : ((Tab.new R).add r.made).2.2 = 0 := by rw [hadd]
        obtain ⟨e1, e2, e3⟩ := bt_first hk hU0
        rw [if_neg (fun q => q hU0)]
        have hat : ∀ i, ((Tab.new R).add r.made).1.at i = ((Tab.new 24).add r.made).1.at i := fun i => by
          rw [hadd, hadd]
          simp only
          rw [at_put (good_new R) (by have := (new_wf R).2.1; omega) (.inr hok), at_put (good_new 24) (by decide) (.inr hok)]
          have hz2 : ∀ V i, (Tab.new V).at i = Node.zero := fun V i => by
            by_cases q : 1 ≤ i
            · rw [at_nd q, nd_new]
            · refine at_none ?_
              cases hh : (Tab.new V).has i with
              | false => rfl
              | true => have := has_rng hh; omega
          rw [hz2, hz2]
        obtain ⟨s1, s2⟩ := from_sim f1 e1 hat (Int.le_refl 0) h
        have hrm : ((Tab.new R).add r.made).1.room = min R 24 := by
          rw [e3]
          show min (max R 1) 24 = min R 24
          omega
        rw [hrm] at s1 s2
        rw [cntN_cons, if_neg (by omega)]
        refine ⟨fun q => ?_, fun q => s2 (by omega)⟩
        obtain ⟨U, u1, u2⟩ := s1 (by omega)
        exact ⟨U, u1, same_at u2⟩
end Abs
end Go.Proofs.Ytpifnlodilcgkaa
