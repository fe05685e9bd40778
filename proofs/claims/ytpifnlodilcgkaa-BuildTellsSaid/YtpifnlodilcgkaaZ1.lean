import Derived.Test.YtpifnlodilcgkaaX7
import Derived.Test.YtpifnlodilcgkaaS1
import Derived.Test.YtpifnlodilcgkaaM2
set_option linter.unusedVariables false
namespace Go.Proofs.Ytpifnlodilcgkaa
namespace Abs
set_option maxRecDepth 10000
attribute [local irreducible] AOps AW ACalls thenQ inBlk noGoto

/-! ### trees: the plain law -/
/-- A directory has an entry that leads to a node. -/
def Tab.ent (T : Tab) (d i : Int) : Prop := ∃ e ∈ (T.at d).ents, e.node = i
theorem at_none {T : Tab} {d : Int} (h : T.has d = false) : T.at d = Node.zero := by
  unfold Tab.at; rw [h]; rfl
theorem at_has {T : Tab} {d : Int} (h : T.has d = true) : T.at d = T.get d := by
  unfold Tab.at; rw [h]; rfl
theorem has_rng {T : Tab} {d : Int} (h : T.has d = true) : 1 ≤ d ∧ d ≤ T.room := by
  unfold Tab.has at h
  simp only [Bool.and_eq_true, decide_eq_true_eq] at h
  exact ⟨h.1.1, h.1.2⟩
theorem ent_has {T : Tab} {d i : Int} (h : T.ent d i) : T.has d = true := by
  obtain ⟨e, he, _⟩ := h
  cases hh : T.has d with
  | true => rfl
  | false => rw [at_none hh] at he; cases he
theorem has_kind' {T : Tab} {d : Int} : T.has d = true ↔ (T.at d).kind ≠ 0 := by
  cases hh : T.has d with
  | true =>
    rw [at_has hh]
    exact ⟨fun _ => has_kind hh, fun _ => rfl⟩
  | false => rw [at_none hh]; simp [Node.zero]
theorem at_zero_ok {T : Tab} (hg : T.good) (i : Int) : T.at i = Node.zero ∨ nodeOk (T.at i) = true := by
  unfold Tab.at
  split
  · exact get_clean hg.clean i
  · exact .inl rfl
theorem mem_tells {T : Tab} {i x : Int} : ∀ k : Nat, x ∈ T.tells i k ↔ ∃ j : Nat, j < k ∧ x = (j : Int) + 1 ∧ T.ent x i
  | 0 => by simp [Tab.tells]
  | k + 1 => by
    have ih := mem_tells (T := T) (i := i) (x := x) k
    simp only [Tab.tells, List.mem_append, ih]
    constructor
    · rintro (⟨j, h1, h2, h3⟩ | h)
      · exact ⟨j, by omega, h2, h3⟩
      · split at h
        · rename_i hh
          obtain ⟨e, he, rfl⟩ := List.mem_map.1 h
          obtain ⟨h1, h2⟩ := List.mem_filter.1 he
          exact ⟨k, by omega, rfl, e, by rw [at_has hh]; exact h1, by simpa using h2⟩
        · cases h
    · rintro ⟨j, h1, rfl, h3⟩
      rcases Nat.lt_or_ge j k with h | h
      · exact .inl ⟨j, h, rfl, h3⟩
      · have : j = k := by omega
        subst this
        refine .inr ?_
        rw [if_pos (ent_has h3)]
        obtain ⟨e, he, h4⟩ := h3
        rw [at_has (ent_has ⟨e, he, h4⟩)] at he
        exact List.mem_map.2 ⟨e, List.mem_filter.2 ⟨he, by simpa using h4⟩, rfl⟩
theorem tells_all {T : Tab} (hw : T.wf) {d i : Int} (h : T.ent d i) : d ∈ T.tells i T.room.toNat := by
  have h1 := has_rng (ent_has h)
  exact (mem_tells _).2 ⟨(d - 1).toNat, by omega, by omega, h⟩
theorem links_pos {T : Tab} (hw : T.wf) {i : Int} : 0 < T.links i ↔ ∃ d, T.ent d i := by
  unfold Tab.links
  constructor
  · intro h
    have : 0 < (T.tells i T.room.toNat).length := by omega
    obtain ⟨x, hx⟩ := List.length_pos_iff_exists_mem.1 this
    obtain ⟨j, _, _, h3⟩ := (mem_tells _).1 hx
    exact ⟨x, h3⟩
  · rintro ⟨d, h⟩
    have := List.length_pos_of_mem (tells_all hw h)
    omega
theorem one_parent {T : Tab} (hw : T.wf) {d i : Int} (h1 : T.links i = 1) (h : T.ent d i) : T.parent i = d := by
  have hm := tells_all hw h
  unfold Tab.links at h1
  unfold Tab.parent
  cases hx : T.tells i T.room.toNat with
  | nil => rw [hx] at hm; cases hm
  | cons a l =>
    rw [hx] at h1 hm
    have : l = [] := List.length_eq_zero_iff.1 (by simp only [List.length_cons] at h1; omega)
    subst this
    rw [List.mem_singleton.1 hm]; rfl
/-- The nodes are a tree. -/
structure Tab.tree (T : Tab) : Prop where
  root : (T.at 1).kind = 2
  top : T.links 1 = 0
  ents : ∀ d i, T.ent d i → T.has i = true
  dirs : ∀ i, (T.at i).kind = 2 → i ≠ 1 → T.links i = 1 ∧ T.rooted 24 i = true
  others : ∀ i, T.has i = true → (T.at i).kind ≠ 2 → 0 < T.links i
theorem rightTo_iff {T : Tab} (op : List Int) (r0 : Bool) : ∀ k : Nat, T.rightTo op r0 k = true ↔ r0 = true ∧ ∀ j : Nat, j < k → T.has ((j : Int) + 1) = true → T.rightStep op j true = true
  | 0 => by simp [Tab.rightTo]
  | k + 1 => by
    have ih := rightTo_iff (T := T) op r0 k
    have step : ∀ r, T.rightStep op k r = true ↔ r = true ∧ T.rightStep op k true = true := fun r => by
      unfold Tab.rightStep
      cases r <;> simp
    simp only [Tab.rightTo]
    constructor
    · intro h
      split at h
      · rename_i hh
        obtain ⟨h1, h2⟩ := (step _).1 h
        obtain ⟨h3, h4⟩ := ih.1 h1
        refine ⟨h3, fun j hj hjh => ?_⟩
        rcases Nat.lt_or_ge j k with h5 | h5
        · exact h4 j h5 hjh
        · have : j = k := by omega
          subst this; exact h2
      · rename_i hh
        obtain ⟨h3, h4⟩ := ih.1 h
        refine ⟨h3, fun j hj hjh => ?_⟩
        rcases Nat.lt_or_ge j k with h5 | h5
        · exact h4 j h5 hjh
        · have : j = k := by omega
          subst this; exact absurd hjh hh
    · rintro ⟨h1, h2⟩
      have h3 := ih.2 ⟨h1, fun j hj => h2 j (by omega)⟩
      split
      · rename_i hh
        exact (step _).2 ⟨h3, h2 k (by omega) hh⟩
      · exact h3
theorem right_iff {T : Tab} (hg : T.good) : T.right [] = true ↔ T.tree := by
  have hw := hg.wf
  unfold Tab.right
  rw [rightTo_iff]
  simp only [Bool.and_eq_true, decide_eq_true_eq]
  constructor
  · rintro ⟨⟨⟨h1, h2⟩, h3⟩, h4⟩
    have key : ∀ i, T.has i = true → (T.get i).ents.all (fun e => T.has e.node) = true ∧ (i ≠ 1 → (if (T.get i).kind = 2 then decide (T.links i = 1) && T.rooted 24 i else decide (T.links i > 0)) = true) := fun i hi => by
      have hr := has_rng hi
      have := h4 (i - 1).toNat (by omega) (by rw [show (((i - 1).toNat : Nat) : Int) + 1 = i by omega]; exact hi)
      unfold Tab.rightStep at this
      rw [show (((i - 1).toNat : Nat) : Int) + 1 = i by omega] at this
      simp only [Bool.true_and, Bool.and_eq_true, List.contains_nil, Bool.or_false] at this
      refine ⟨this.1, fun hne => ?_⟩
      rw [if_neg hne] at this
      exact this.2
    refine ⟨by rw [at_has h1]; exact h2, h3, fun d i hd => ?_, fun i hk hne => ?_, fun i hi hk => ?_⟩
    · obtain ⟨e, he, rfl⟩ := hd
      have hh := ent_has ⟨e, he, rfl⟩
      rw [at_has hh] at he
      exact List.all_eq_true.1 (key d hh).1 e he
    · have hh : T.has i = true := has_kind'.2 (by rw [hk]; decide)
      have := (key i hh).2 hne
      rw [at_has hh] at hk
      rw [if_pos hk] at this
      simpa using this
    · have hne : i ≠ 1 := fun e => by subst e; rw [at_has h1] at hk; exact hk h2
      have := (key i hi).2 hne
      rw [at_has hi] at hk
      rw [if_neg hk] at this
      simpa using this
  · intro h
    have hh1 : T.has 1 = true := has_kind'.2 (by rw [h.root]; decide)
    refine ⟨⟨⟨hh1, by rw [← at_has hh1]; exact h.root⟩, h.top⟩, fun j hj hjh => ?_⟩
    unfold Tab.rightStep
    simp only [Bool.true_and, Bool.and_eq_true]
    refine ⟨List.all_eq_true.2 fun e he => h.ents ((j : Int) + 1) e.node ⟨e, by rw [at_has hjh]; exact he, rfl⟩, ?_⟩
    split
    · rfl
    · rename_i hne
      split
      · rename_i hk
        obtain ⟨q1, q2⟩ := h.dirs ((j : Int) + 1) (by rw [at_has hjh]; exact hk) hne
        rw [q2, decide_eq_true q1]; rfl
      · rename_i hk
        have := h.others ((j : Int) + 1) hjh (by rw [at_has hjh]; exact hk)
        rw [decide_eq_true this]; rfl
theorem nodir_ents0 {n : Node} (h : nodeOk n = true) (hk : ¬ n.kind = 2) : n.ents = [] := by
  rcases nodeOk_kind0 h with e | e | e
  · unfold nodeOk at h
    rw [if_pos e] at h
    simp only [Bool.and_eq_true, decide_eq_true_eq] at h
    exact List.length_eq_zero_iff.1 h.2.1.1
  · exact absurd e hk
  · unfold nodeOk at h
    rw [if_neg (by omega), if_neg hk, if_pos e] at h
    simp only [Bool.and_eq_true, decide_eq_true_eq] at h
    exact List.length_eq_zero_iff.1 (by omega)
end Abs
end Go.Proofs.Ytpifnlodilcgkaa

set_option linter.unusedVariables false
namespace Go.Proofs.Ytpifnlodilcgkaa
namespace Abs
set_option maxRecDepth 10000
attribute [local irreducible] AOps AW ACalls thenQ inBlk noGoto

/-! ### what is built is a tree: the plain law -/
structure BT (T : Tab) (m : Int) : Prop where
  good : T.good
  has : ∀ i, T.has i = true ↔ 1 ≤ i ∧ i ≤ m
  pos : 1 ≤ m
  root : (T.at 1).kind = 2
  ents : ∀ d i, T.ent d i → 2 ≤ i ∧ i ≤ m ∧ ((T.at i).kind = 2 → d < i)
  dirs : ∀ i, 2 ≤ i → (T.at i).kind = 2 → T.links i = 1
  links : ∀ i, 2 ≤ i → i ≤ m → 1 ≤ T.links i
theorem BT.room {T : Tab} {m : Int} (h : BT T m) : m ≤ T.room := (has_rng ((h.has m).2 ⟨h.pos, Int.le_refl _⟩)).2
theorem BT.rooted {T : Tab} {m : Int} (h : BT T m) : ∀ (n : Nat) (i : Int), 1 ≤ i → i ≤ n → (T.at i).kind = 2 → T.rooted n i = true
  | 0, i, h1, h2, _ => by omega
  | n + 1, i, h1, h2, hk => by
    rw [Tab.rooted]
    split
    · rfl
    · rename_i hne
      have hl := h.dirs i (by omega) hk
      obtain ⟨d, hd⟩ := (links_pos h.good.wf).1 (show 0 < T.links i by omega)
      have hp := one_parent h.good.wf hl hd
      have h3 := h.ents d i hd
      have h4 := h3.2.2 hk
      have hdh := has_rng (ent_has hd)
      rw [hp]
      refine h.rooted n d (by omega) (by omega) ?_
      obtain ⟨e, he, _⟩ := hd
      rcases at_zero_ok h.good d with z | z
      · rw [z] at he; cases he
      · by_cases hk2 : (T.at d).kind = 2
        · exact hk2
        · exfalso
          rcases nodeOk_kind0 z with k1 | k2 | k3
          · unfold nodeOk at z
            rw [if_pos k1] at z
            simp only [Bool.and_eq_true, decide_eq_true_eq] at z
            have : (T.at d).ents = [] := List.length_eq_zero_iff.1 z.2.1.1
            rw [this] at he; cases he
          · exact hk2 k2
          · unfold nodeOk at z
            rw [if_neg (by omega), if_neg hk2, if_pos k3] at z
            simp only [Bool.and_eq_true, decide_eq_true_eq] at z
            have : (T.at d).ents = [] := List.length_eq_zero_iff.1 (by omega)
            rw [this] at he; cases he
theorem BT.tree {T : Tab} {m : Int} (h : BT T m) : T.tree := by
  have hw := h.good.wf
  have hrm := h.room
  have h24 := hw.2.1
  refine ⟨h.root, ?_, fun d i hd => (h.has i).2 (by have := h.ents d i hd; omega), fun i hk hne => ?_, fun i hi hk => ?_⟩
  · have h0 := links_nonneg T 1
    by_cases e : T.links 1 = 0
    · exact e
    · obtain ⟨d, hd⟩ := (links_pos hw).1 (show 0 < T.links 1 by omega)
      have := (h.ents d 1 hd).1
      omega
  · have hh : T.has i = true := has_kind'.2 (by rw [hk]; decide)
    have hr := (h.has i).1 hh
    exact ⟨h.dirs i (by omega) hk, h.rooted 24 i (by omega) (by omega) hk⟩
  · have hr := (h.has i).1 hi
    have hne : i ≠ 1 := fun e => by subst e; exact hk h.root
    have := h.links i (by omega) hr.2
    omega
end Abs
end Go.Proofs.Ytpifnlodilcgkaa
