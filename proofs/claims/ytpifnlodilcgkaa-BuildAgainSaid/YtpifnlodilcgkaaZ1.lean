import Derived.Test.YtpifnlodilcgkaaX7
import Derived.Test.YtpifnlodilcgkaaS1
import Derived.Test.YtpifnlodilcgkaaM2
set_option linter.unusedVariables false
namespace Go.Proofs.Ytpifnlodilcgkaa
namespace Abs
set_option maxRecDepth 10000
attribute [local irreducible] AOps AW ACalls thenQ inBlk noGoto

/-! ### trees: the plain law -/
def cntE (n : Node) (i : Int) : Nat := cnt i (n.ents.map (·.node))
/-- A directory has an entry that leads to a node. -/
def Tab.ent (T : Tab) (d i : Int) : Prop := ∃ e ∈ (T.at d).ents, e.node = i
theorem at_nd {T : Tab} {d : Int} (h : 1 ≤ d) : T.at d = T.nd (d - 1).toNat := by
  unfold Tab.at Tab.nd
  rw [show (((d - 1).toNat : Nat) : Int) + 1 = d by omega]
theorem at_none {T : Tab} {d : Int} (h : T.has d = false) : T.at d = Node.zero := by
  unfold Tab.at; rw [h]; rfl
theorem at_has {T : Tab} {d : Int} (h : T.has d = true) : T.at d = T.get d := by
  unfold Tab.at; rw [h]; rfl
theorem has_rng {T : Tab} {d : Int} (h : T.has d = true) : 1 ≤ d ∧ d ≤ T.room := by
  unfold Tab.has at h
  simp only [Bool.and_eq_true, decide_eq_true_eq] at h
  exact ⟨h.1.1, h.1.2⟩
theorem ent_has {T : Tab} {d i : Int} (h : T.ent d i) : T.has d = true := by
  obtain ⟨e, he, _⟩ := h
  cases hh : T.has d with
  | true => rfl
  | false => rw [at_none hh] at he; cases he
theorem has_kind' {T : Tab} {d : Int} : T.has d = true ↔ (T.at d).kind ≠ 0 := by
  cases hh : T.has d with
  | true =>
    rw [at_has hh]
    exact ⟨fun _ => has_kind hh, fun _ => rfl⟩
  | false => rw [at_none hh]; simp [Node.zero]
theorem at_zero_ok {T : Tab} (hg : T.good) (i : Int) : T.at i = Node.zero ∨ nodeOk (T.at i) = true := by
  unfold Tab.at
  split
  · exact get_clean hg.clean i
  · exact .inl rfl
theorem at_put {T : Tab} (hg : T.good) {k : Nat} (hk : (k : Int) < T.room) {n : Node} (hn : n = Node.zero ∨ nodeOk n = true) (i : Int) : (T.put k n).at i = if i = k + 1 then n else T.at i := by
  have h24 := hg.wf.2.1
  by_cases h1 : 1 ≤ i
  · rw [at_nd h1, at_nd h1, nd_put hg.wf.1 hk (by omega) hn]
    by_cases e : i = (k : Int) + 1
    · rw [if_pos e, if_pos (by omega)]
    · rw [if_neg e, if_neg (by omega)]
  · have h2 : ∀ U : Tab, U.has i = false := fun U => by
      cases hh : U.has i with
      | false => rfl
      | true => have := (has_rng hh).1; omega
    rw [at_none (h2 _), at_none (h2 _), if_neg (by omega)]
theorem all_put {T : Tab} (hg : T.good) {k : Nat} (hk : (k : Int) < T.room) {n : Node} (hn : n = Node.zero ∨ nodeOk n = true) (i : Int) : ∀ m : Nat,
    cnt i ((T.put k n).all m) + (if k < m then cntE (T.nd k) i else 0) = cnt i (T.all m) + if k < m then cntE n i else 0
  | 0 => by simp [Tab.all]
  | m + 1 => by
    have h24 := hg.wf.2.1
    have ih := all_put hg hk hn i m
    simp only [Tab.all, cnt_append, nd_put hg.wf.1 hk (by omega) hn]
    by_cases e : m = k
    · subst e
      rw [if_neg (by omega), if_neg (by omega)] at ih
      rw [if_pos rfl, if_pos (by omega), if_pos (by omega)]
      show _ + cntE n i + cntE (T.nd m) i = _ + cntE (T.nd m) i + cntE n i
      omega
    · rw [if_neg e]
      show _ + cntE (T.nd m) i + _ = _ + cntE (T.nd m) i + _
      by_cases l : k < m
      · rw [if_pos l, if_pos l] at ih
        rw [if_pos (by omega), if_pos (by omega)]
        omega
      · rw [if_neg l, if_neg l] at ih
        rw [if_neg (by omega), if_neg (by omega)]
        omega
theorem put_good {T : Tab} (hg : T.good) {n : Node} (hn : n = Node.zero ∨ nodeOk n = true) (k : Nat) : (T.put k n).good := by
  rcases hn with rfl | hn
  · exact ⟨put_wf hg.wf Node.zero_small k, fun m hm => by
      rcases List.mem_or_eq_of_mem_set hm with hm | rfl
      · exact hg.clean m hm
      · exact .inl rfl⟩
  · exact good_put hg hn k
theorem links_put {T : Tab} (hg : T.good) {k : Nat} (hk : (k : Int) < T.room) {n : Node} (hn : n = Node.zero ∨ nodeOk n = true) (i : Int) : (T.put k n).links i + cntE (T.nd k) i = T.links i + cntE n i := by
  have h24 := hg.wf.2.1
  rw [links_cnt (put_good hg hn k).wf, links_cnt hg.wf]
  have := all_put hg hk hn i 24
  rw [if_pos (by omega), if_pos (by omega)] at this
  omega
theorem mem_tells {T : Tab} {i x : Int} : ∀ k : Nat, x ∈ T.tells i k ↔ ∃ j : Nat, j < k ∧ x = (j : Int) + 1 ∧ T.ent x i
  | 0 => by simp [Tab.tells]
  | k + 1 => by
    have ih := mem_tells (T := T) (i := i) (x := x) k
    simp only [Tab.tells, List.mem_append, ih]
    constructor
    · rintro (⟨j, h1, h2, h3⟩ | h)
      · exact ⟨j, by omega, h2, h3⟩
      · split at h
        · rename_i hh
          obtain ⟨e, he, rfl⟩ := List.mem_map.1 h
          obtain ⟨h1, h2⟩ := List.mem_filter.1 he
          exact ⟨k, by omega, rfl, e, by rw [at_has hh]; exact h1, by simpa using h2⟩
        · cases h
    · rintro ⟨j, h1, rfl, h3⟩
      rcases Nat.lt_or_ge j k with h | h
      · exact .inl ⟨j, h, rfl, h3⟩
      · have : j = k := by omega
        subst this
        refine .inr ?_
        rw [if_pos (ent_has h3)]
        obtain ⟨e, he, h4⟩ := h3
        rw [at_has (ent_has ⟨e, he, h4⟩)] at he
        exact List.mem_map.2 ⟨e, List.mem_filter.2 ⟨he, by simpa using h4⟩, rfl⟩
theorem tells_all {T : Tab} (hw : T.wf) {d i : Int} (h : T.ent d i) : d ∈ T.tells i T.room.toNat := by
  have h1 := has_rng (ent_has h)
  exact (mem_tells _).2 ⟨(d - 1).toNat, by omega, by omega, h⟩
theorem links_pos {T : Tab} (hw : T.wf) {i : Int} : 0 < T.links i ↔ ∃ d, T.ent d i := by
  unfold Tab.links
  constructor
  · intro h
    have : 0 < (T.tells i T.room.toNat).length := by omega
    obtain ⟨x, hx⟩ := List.length_pos_iff_exists_mem.1 this
    obtain ⟨j, _, _, h3⟩ := (mem_tells _).1 hx
    exact ⟨x, h3⟩
  · rintro ⟨d, h⟩
    have := List.length_pos_of_mem (tells_all hw h)
    omega
theorem one_parent {T : Tab} (hw : T.wf) {d i : Int} (h1 : T.links i = 1) (h : T.ent d i) : T.parent i = d := by
  have hm := tells_all hw h
  unfold Tab.links at h1
  unfold Tab.parent
  cases hx : T.tells i T.room.toNat with
  | nil => rw [hx] at hm; cases hm
  | cons a l =>
    rw [hx] at h1 hm
    have : l = [] := List.length_eq_zero_iff.1 (by simp only [List.length_cons] at h1; omega)
    subst this
    rw [List.mem_singleton.1 hm]; rfl
/-- The nodes are a tree. -/
structure Tab.tree (T : Tab) : Prop where
  root : (T.at 1).kind = 2
  top : T.links 1 = 0
  ents : ∀ d i, T.ent d i → T.has i = true
  dirs : ∀ i, (T.at i).kind = 2 → i ≠ 1 → T.links i = 1 ∧ T.rooted 24 i = true
  others : ∀ i, T.has i = true → (T.at i).kind ≠ 2 → 0 < T.links i
theorem rightTo_iff {T : Tab} (op : List Int) (r0 : Bool) : ∀ k : Nat, T.rightTo op r0 k = true ↔ r0 = true ∧ ∀ j : Nat, j < k → T.has ((j : Int) + 1) = true → T.rightStep op j true = true
  | 0 => by simp [Tab.rightTo]
  | k + 1 => by
    have ih := rightTo_iff (T := T) op r0 k
    have step : ∀ r, T.rightStep op k r = true ↔ r = true ∧ T.rightStep op k true = true := fun r => by
      unfold Tab.rightStep
      cases r <;> simp
    simp only [Tab.rightTo]
    constructor
    · intro h
      split at h
      · rename_i hh
        obtain ⟨h1, h2⟩ := (step _).1 h
        obtain ⟨h3, h4⟩ := ih.1 h1
        refine ⟨h3, fun j hj hjh => ?_⟩
        rcases Nat.lt_or_ge j k with h5 | h5
        · exact h4 j h5 hjh
        · have : j = k := by omega
          subst this; exact h2
      · rename_i hh
        obtain ⟨h3, h4⟩ := ih.1 h
        refine ⟨h3, fun j hj hjh => ?_⟩
        rcases Nat.lt_or_ge j k with h5 | h5
        · exact h4 j h5 hjh
        · have : j = k := by omega
          subst this; exact absurd hjh hh
    · rintro ⟨h1, h2⟩
      have h3 := ih.2 ⟨h1, fun j hj => h2 j (by omega)⟩
      split
      · rename_i hh
        exact (step _).2 ⟨h3, h2 k (by omega) hh⟩
      · exact h3
theorem right_iff {T : Tab} (hg : T.good) : T.right [] = true ↔ T.tree := by
  have hw := hg.wf
  unfold Tab.right
  rw [rightTo_iff]
  simp only [Bool.and_eq_true, decide_eq_true_eq]
  constructor
  · rintro ⟨⟨⟨h1, h2⟩, h3⟩, h4⟩
    have key : ∀ i, T.has i = true → (T.get i).ents.all (fun e => T.has e.node) = true ∧ (i ≠ 1 → (if (T.get i).kind = 2 then decide (T.links i = 1) && T.rooted 24 i else decide (T.links i > 0)) = true) := fun i hi => by
      have hr := has_rng hi
      have := h4 (i - 1).toNat (by omega) (by rw [show (((i - 1).toNat : Nat) : Int) + 1 = i by omega]; exact hi)
      unfold Tab.rightStep at this
      rw [show (((i - 1).toNat : Nat) : Int) + 1 = i by omega] at this
      simp only [Bool.true_and, Bool.and_eq_true, List.contains_nil, Bool.or_false] at this
      refine ⟨this.1, fun hne => ?_⟩
      rw [if_neg hne] at this
      exact this.2
    refine ⟨by rw [at_has h1]; exact h2, h3, fun d i hd => ?_, fun i hk hne => ?_, fun i hi hk => ?_⟩
    · obtain ⟨e, he, rfl⟩ := hd
      have hh := ent_has ⟨e, he, rfl⟩
      rw [at_has hh] at he
      exact List.all_eq_true.1 (key d hh).1 e he
    · have hh : T.has i = true := has_kind'.2 (by rw [hk]; decide)
      have := (key i hh).2 hne
      rw [at_has hh] at hk
      rw [if_pos hk] at this
      simpa using this
    · have hne : i ≠ 1 := fun e => by subst e; rw [at_has h1] at hk; exact hk h2
      have := (key i hi).2 hne
      rw [at_has hi] at hk
      rw [if_neg hk] at this
      simpa using this
  · intro h
    have hh1 : T.has 1 = true := has_kind'.2 (by rw [h.root]; decide)
    refine ⟨⟨⟨hh1, by rw [← at_has hh1]; exact h.root⟩, h.top⟩, fun j hj hjh => ?_⟩
    unfold Tab.rightStep
    simp only [Bool.true_and, Bool.and_eq_true]
    refine ⟨List.all_eq_true.2 fun e he => h.ents ((j : Int) + 1) e.node ⟨e, by rw [at_has hjh]; exact he, rfl⟩, ?_⟩
    split
    · rfl
    · rename_i hne
      split
      · rename_i hk
        obtain ⟨q1, q2⟩ := h.dirs ((j : Int) + 1) (by rw [at_has hjh]; exact hk) hne
        rw [q2, decide_eq_true q1]; rfl
      · rename_i hk
        have := h.others ((j : Int) + 1) hjh (by rw [at_has hjh]; exact hk)
        rw [decide_eq_true this]; rfl
theorem nodir_ents0 {n : Node} (h : nodeOk n = true) (hk : ¬ n.kind = 2) : n.ents = [] := by
  rcases nodeOk_kind0 h with e | e | e
  · unfold nodeOk at h
    rw [if_pos e] at h
    simp only [Bool.and_eq_true, decide_eq_true_eq] at h
    exact List.length_eq_zero_iff.1 h.2.1.1
  · exact absurd e hk
  · unfold nodeOk at h
    rw [if_neg (by omega), if_neg hk, if_pos e] at h
    simp only [Bool.and_eq_true, decide_eq_true_eq] at h
    exact List.length_eq_zero_iff.1 (by omega)
end Abs
end Go.Proofs.Ytpifnlodilcgkaa

set_option linter.unusedVariables false
namespace Go.Proofs.Ytpifnlodilcgkaa
namespace Abs
set_option maxRecDepth 10000
attribute [local irreducible] AOps AW ACalls thenQ inBlk noGoto

/-! ### what is built is a tree: the plain law -/
structure BT (T : Tab) (m : Int) : Prop where
  good : T.good
  has : ∀ i, T.has i = true ↔ 1 ≤ i ∧ i ≤ m
  pos : 1 ≤ m
  root : (T.at 1).kind = 2
  ents : ∀ d i, T.ent d i → 2 ≤ i ∧ i ≤ m ∧ ((T.at i).kind = 2 → d < i)
  dirs : ∀ i, 2 ≤ i → (T.at i).kind = 2 → T.links i = 1
  links : ∀ i, 2 ≤ i → i ≤ m → 1 ≤ T.links i
theorem BT.room {T : Tab} {m : Int} (h : BT T m) : m ≤ T.room := (has_rng ((h.has m).2 ⟨h.pos, Int.le_refl _⟩)).2
theorem BT.rooted {T : Tab} {m : Int} (h : BT T m) : ∀ (n : Nat) (i : Int), 1 ≤ i → i ≤ n → (T.at i).kind = 2 → T.rooted n i = true
  | 0, i, h1, h2, _ => by omega
  | n + 1, i, h1, h2, hk => by
    rw [Tab.rooted]
    split
    · rfl
    · rename_i hne
      have hl := h.dirs i (by omega) hk
      obtain ⟨d, hd⟩ := (links_pos h.good.wf).1 (show 0 < T.links i by omega)
      have hp := one_parent h.good.wf hl hd
      have h3 := h.ents d i hd
      have h4 := h3.2.2 hk
      have hdh := has_rng (ent_has hd)
      rw [hp]
      refine h.rooted n d (by omega) (by omega) ?_
      obtain ⟨e, he, _⟩ := hd
      rcases at_zero_ok h.good d with z | z
      · rw [z] at he; cases he
      · by_cases hk2 : (T.at d).kind = 2
        · exact hk2
        · exfalso
          rcases nodeOk_kind0 z with k1 | k2 | k3
          · unfold nodeOk at z
            rw [if_pos k1] at z
            simp only [Bool.and_eq_true, decide_eq_true_eq] at z
            have : (T.at d).ents = [] := List.length_eq_zero_iff.1 z.2.1.1
            rw [this] at he; cases he
          · exact hk2 k2
          · unfold nodeOk at z
            rw [if_neg (by omega), if_neg hk2, if_pos k3] at z
            simp only [Bool.and_eq_true, decide_eq_true_eq] at z
            have : (T.at d).ents = [] := List.length_eq_zero_iff.1 (by omega)
            rw [this] at he; cases he
theorem BT.tree {T : Tab} {m : Int} (h : BT T m) : T.tree := by
  have hw := h.good.wf
  have hrm := h.room
  have h24 := hw.2.1
  refine ⟨h.root, ?_, fun d i hd => (h.has i).2 (by have := h.ents d i hd; omega), fun i hk hne => ?_, fun i hi hk => ?_⟩
  · have h0 := links_nonneg T 1
    by_cases e : T.links 1 = 0
    · exact e
    · obtain ⟨d, hd⟩ := (links_pos hw).1 (show 0 < T.links 1 by omega)
      have := (h.ents d 1 hd).1
      omega
  · have hh : T.has i = true := has_kind'.2 (by rw [hk]; decide)
    have hr := (h.has i).1 hh
    exact ⟨h.dirs i (by omega) hk, h.rooted 24 i (by omega) (by omega) hk⟩
  · have hr := (h.has i).1 hi
    have hne : i ≠ 1 := fun e => by subst e; exact hk h.root
    have := h.links i (by omega) hr.2
    omega
theorem cntE_ins (p : Node) (new : Ent) (i : Int) : cntE { p with ents := insE new p.ents } i = cntE p i + if i = new.node then 1 else 0 := by
  unfold cntE
  show cnt i ((insE new p.ents).map (·.node)) = _
  generalize p.ents = l
  have hc : ∀ (a : Int) (A : List Int), cnt i (a :: A) = cnt i A + if i = a then 1 else 0 := fun a A => by
    simp only [cnt, List.filter_cons]
    by_cases e : a = i
    · subst e; simp
    · rw [if_neg (by simpa using e), if_neg (fun q => e q.symm)]; rfl
  induction l with
  | nil => simp only [insE, List.map_cons, List.map_nil, hc]
  | cons a l ih =>
    simp only [insE]
    split
    · simp only [List.map_cons, hc]
    · simp only [List.map_cons, hc, ih]; omega
theorem ent_ins {T U : Tab} {p : Int} {q : Node} {new : Ent} (hat : ∀ i, U.at i = if i = p then q else T.at i) (hq : q.ents = insE new (T.at p).ents) (d i : Int) : U.ent d i ↔ T.ent d i ∨ (d = p ∧ i = new.node) := by
  unfold Tab.ent
  rw [hat]
  by_cases e : d = p
  · subst e
    rw [if_pos rfl, hq]
    simp only [insE_mem]
    constructor
    · rintro ⟨x, rfl | hx, rfl⟩
      · exact .inr ⟨trivial, rfl⟩
      · exact .inl ⟨x, hx, rfl⟩
    · rintro (⟨x, hx, rfl⟩ | ⟨_, rfl⟩)
      · exact ⟨x, .inr hx, rfl⟩
      · exact ⟨new, .inl rfl, rfl⟩
  · rw [if_neg e]
    exact ⟨.inl, fun h => h.elim id (fun h => absurd h.1 e)⟩
/-- An entry more: what it makes of a table. -/
theorem put_with {T : Tab} (hg : T.good) {p : Int} (hp : T.has p = true) {name : ByteArray} {id : Int} (he : (T.at p).withE name id = 0) :
    T.putE p ((T.at p).withN name id) = (T.put (p - 1).toNat ((T.at p).withN name id), 0) ∧ nodeOk ((T.at p).withN name id) = true ∧ (T.put (p - 1).toNat ((T.at p).withN name id)).good ∧
    (∀ i, (T.put (p - 1).toNat ((T.at p).withN name id)).at i = if i = p then (T.at p).withN name id else T.at i) ∧
    (∀ d i, (T.put (p - 1).toNat ((T.at p).withN name id)).ent d i ↔ T.ent d i ∨ (d = p ∧ i = id)) ∧
    ∀ i, (T.put (p - 1).toNat ((T.at p).withN name id)).links i = T.links i + if i = id then 1 else 0 := by
  have hr := has_rng hp
  have hok : nodeOk (T.at p) = true := by
    rcases at_zero_ok hg p with z | z
    · have := has_kind'.1 hp
      rw [z] at this
      exact absurd rfl this
    · exact z
  have hok2 := (stays_with hok he).1
  have hk : (((p - 1).toNat : Nat) : Int) < T.room := by omega
  have hat : ∀ i, (T.put (p - 1).toNat ((T.at p).withN name id)).at i = if i = p then (T.at p).withN name id else T.at i := fun i => by
    rw [at_put hg hk (.inr hok2), show (((p - 1).toNat : Nat) : Int) + 1 = p by omega]
  have hq : ((T.at p).withN name id).ents = insE ⟨name, id⟩ (T.at p).ents := by rw [withN_ents he]
  refine ⟨?_, hok2, put_good hg (.inr hok2) _, hat, fun d i => ent_ins hat hq d i, fun i => ?_⟩
  · unfold Tab.putE
    rw [if_pos hp, if_pos hok2]
  · have := links_put hg hk (.inr hok2) i
    have hnd : T.nd (p - 1).toNat = T.at p := (at_nd (by omega)).symm
    rw [hnd] at this
    have hc := cntE_ins (T.at p) ⟨name, id⟩ i
    rw [← withN_ents he] at hc
    rw [hc] at this
    simp only at this
    split <;> split at this <;> omega
theorem free_bt {T : Tab} {m : Int} (h : BT T m) {k : Nat} (hf : T.free = some k) : (k : Int) = m ∧ m < T.room := by
  unfold Tab.free at hf
  rw [List.find?_range_eq_some] at hf
  obtain ⟨h1, h2, h3⟩ := hf
  rw [List.mem_range] at h2
  have hm := h.pos
  have hk : ¬ (k : Int) + 1 ≤ m := fun e => by
    have := (h.has ((k : Int) + 1)).2 ⟨by omega, e⟩
    rw [this] at h1; cases h1
  have hk2 : ¬ m < (k : Int) := fun e => by
    have := h3 m.toNat (by omega)
    have hn : T.has (((m.toNat : Nat) : Int) + 1) = false := by
      cases hh : T.has (((m.toNat : Nat) : Int) + 1) with
      | false => rfl
      | true => have := (h.has _).1 hh; omega
    rw [hn] at this
    cases this
  omega
theorem made_ents (r : Raw) (i : Int) : cntE r.made i = 0 := rfl
theorem cntE_zero (i : Int) : cntE Node.zero i = 0 := rfl
theorem bt_add {T : Tab} {m : Int} (h : BT T m) {r : Raw} (he : (T.add r.made).2.2 = 0) :
    m < T.room ∧ nodeOk r.made = true ∧ (T.add r.made) = (T.put m.toNat r.made, m + 1, 0) ∧ (T.put m.toNat r.made).good ∧ (∀ i, (T.put m.toNat r.made).at i = if i = m + 1 then r.made else T.at i) ∧
    (∀ d i, (T.put m.toNat r.made).ent d i ↔ T.ent d i) ∧ ∀ i, (T.put m.toNat r.made).links i = T.links i := by
  have hm := h.pos
  unfold Tab.add at he ⊢
  by_cases hok : nodeOk r.made = true
  · rw [if_pos hok] at he ⊢
    cases hf : T.free with
    | none => rw [hf] at he; cases he
    | some k =>
      obtain ⟨h1, h2⟩ := free_bt h hf
      have hk : (m.toNat : Int) < T.room := by omega
      have hkk : k = m.toNat := by omega
      subst hkk
      have hz : T.at (m + 1) = Node.zero := at_none (by
        cases hh : T.has (m + 1) with
        | false => rfl
        | true => have := (h.has _).1 hh; omega)
      have hat : ∀ i, (T.put m.toNat r.made).at i = if i = m + 1 then r.made else T.at i := fun i => by
        rw [at_put h.good hk (.inr hok), show ((m.toNat : Nat) : Int) + 1 = m + 1 by omega]
      refine ⟨h2, hok, by show (_, _, _) = (_, _, _); rw [show ((m.toNat : Nat) : Int) + 1 = m + 1 by omega], put_good h.good (.inr hok) _, hat, fun d i => ?_, fun i => ?_⟩
      · unfold Tab.ent
        rw [hat]
        by_cases e : d = m + 1
        · rw [if_pos e, e, hz]
          exact ⟨fun ⟨x, hx, _⟩ => (by cases hx), fun ⟨x, hx, _⟩ => (by cases hx)⟩
        · rw [if_neg e]
      · have := links_put h.good hk (.inr hok) i
        rw [show T.nd m.toNat = Node.zero from by rw [← hz, at_nd (by omega)]; congr 1; omega, made_ents, cntE_zero] at this
        omega
  · rw [if_neg hok] at he; cases he
theorem bt_one {T : Tab} {m : Int} (h : BT T m) {r : Raw} (he : (r.one T).2 = 0) : BT (r.one T).1 (if r.kind = 4 then m else m + 1) ∧ (∀ i, (r.one T).1.links i = T.links i + if i = (if r.kind = 4 then r.node else m + 1) then 1 else 0) ∧ (¬ r.kind = 4 → m < T.room) ∧ (r.one T).1.room = T.room := by
  have hm := h.pos
  unfold Raw.one at he ⊢
  by_cases hp : T.has r.parent = true
  case neg => rw [if_neg hp] at he; cases he
  rw [if_pos hp] at he ⊢
  have hpr := (h.has _).1 hp
  by_cases h0 : (r.told T).2.2 = 0
  case neg => rw [if_pos h0] at he; exact absurd he h0
  rw [if_neg (fun q => q h0)] at he ⊢
  by_cases hk4 : r.kind = 4
  · rw [if_pos hk4, if_pos hk4]
    have ht : r.told T = if T.has r.node = true then (if (T.get r.node).kind = 2 then (T, 0, 1) else (T, r.node, 0)) else (T, 0, 2) := by
      unfold Raw.told; rw [if_neg (fun q => q hk4)]
    by_cases hn : T.has r.node = true
    case neg => rw [ht, if_neg hn] at h0; cases h0
    rw [if_pos hn] at ht
    by_cases hk2 : (T.get r.node).kind = 2
    · rw [ht, if_pos hk2] at h0; cases h0
    rw [if_neg hk2] at ht
    rw [ht] at he ⊢
    simp only at he ⊢
    have hk2' : (T.at r.node).kind ≠ 2 := by rw [at_has hn]; exact hk2
    have hnr := (h.has _).1 hn
    have hn1 : r.node ≠ 1 := fun e => by rw [e] at hk2'; exact hk2' h.root
    by_cases hw0 : (T.at r.parent).withE r.name r.node = 0
    case neg => rw [if_pos hw0] at he; exact absurd he hw0
    rw [if_neg (fun q => q hw0)] at he ⊢
    obtain ⟨q1, q2, q3, q4, q5, q6⟩ := put_with h.good hp hw0
    rw [q1]
    have hkd : ∀ i, ((T.put (r.parent - 1).toNat ((T.at r.parent).withN r.name r.node)).at i).kind = (T.at i).kind := fun i => by
      rw [q4]
      split
      · rename_i e; rw [e, withN_ents hw0]
      · rfl
    refine ⟨⟨q3, fun i => ?_, hm, by rw [hkd]; exact h.root, fun d i hd => ?_, fun i hi hk => ?_, fun i hi hi2 => ?_⟩, fun i => q6 i, fun q => absurd hk4 q, rfl⟩
    · rw [has_kind', hkd, ← has_kind', h.has]
    · rw [hkd]
      rcases (q5 d i).1 hd with hd | ⟨rfl, rfl⟩
      · exact h.ents d i hd
      · exact ⟨by omega, by omega, fun e => absurd e hk2'⟩
    · rw [hkd] at hk
      rw [q6, h.dirs i hi hk, if_neg (show ¬ i = r.node from fun e => hk2' (e ▸ hk))]; rfl
    · rw [q6]
      have := h.links i hi hi2
      split <;> omega
  · rw [if_neg hk4, if_neg hk4]
    have ht : r.told T = T.add r.made := by unfold Raw.told; rw [if_pos hk4]
    rw [ht] at h0 he ⊢
    obtain ⟨a1, a2, a3, a4, a5, a6, a7⟩ := bt_add h h0
    rw [a3] at he ⊢
    simp only at he ⊢
    have hne : r.parent ≠ m + 1 := by omega
    have hap : (T.put m.toNat r.made).at r.parent = T.at r.parent := by rw [a5, if_neg hne]
    have hp1 : (T.put m.toNat r.made).has r.parent = true := has_kind'.2 (by rw [hap]; exact has_kind'.1 hp)
    by_cases hw0 : ((T.put m.toNat r.made).at r.parent).withE r.name (m + 1) = 0
    case neg => rw [if_pos hw0] at he; exact absurd he hw0
    rw [if_neg (fun q => q hw0)] at he ⊢
    obtain ⟨q1, q2, q3, q4, q5, q6⟩ := put_with a4 hp1 hw0
    rw [q1]
    have hkd : ∀ i, (((T.put m.toNat r.made).put (r.parent - 1).toNat (((T.put m.toNat r.made).at r.parent).withN r.name (m + 1))).at i).kind = if i = m + 1 then r.made.kind else (T.at i).kind := fun i => by
      rw [q4]
      split
      · rename_i e; rw [e, withN_ents hw0, hap, if_neg hne]
      · rw [a5]; split <;> rfl
    have hmk := nodeOk_kind0 a2
    refine ⟨⟨q3, fun i => ?_, by omega, ?_, fun d i hd => ?_, fun i hi hk => ?_, fun i hi hi2 => ?_⟩, fun i => by rw [q6, a7], fun _ => a1, rfl⟩
    · rw [has_kind', hkd]
      split
      · rename_i e; exact ⟨fun _ => by omega, fun _ => by omega⟩
      · rw [← has_kind', h.has]; omega
    · rw [hkd, if_neg (by omega)]; exact h.root
    · rw [hkd]
      rcases (q5 d i).1 hd with hd | ⟨rfl, rfl⟩
      · have := h.ents d i ((a6 d i).1 hd)
        rw [if_neg (by omega)]
        exact ⟨this.1, by omega, this.2.2⟩
      · exact ⟨by omega, by omega, fun _ => by omega⟩
    · rw [q6, a7]
      rw [hkd] at hk
      split at hk
      · rename_i e
        rw [if_pos e]
        have : T.links i = 0 := by
          by_cases z : T.links i = 0
          · exact z
          · obtain ⟨d, hd⟩ := (links_pos h.good.wf).1 (show 0 < T.links i by have := links_nonneg T i; omega)
            have := h.ents d i hd
            omega
        omega
      · rename_i e
        rw [if_neg e, h.dirs i hi hk]; rfl
    · rw [q6, a7]
      by_cases e : i = m + 1
      · rw [if_pos e]; have := links_nonneg T i; omega
      · rw [if_neg e]; have := h.links i hi (by omega); omega
theorem bt_first {room : Int} {r : Raw} (hk : r.kind = 2) (he : ((Tab.new room).add r.made).2.2 = 0) : BT ((Tab.new room).add r.made).1 1 ∧ (∀ i, ((Tab.new room).add r.made).1.links i = 0) ∧ ((Tab.new room).add r.made).1.room = (Tab.new room).room := by
  have hg := good_new room
  have h24 := hg.wf.2.1
  have hz : ∀ i, (Tab.new room).at i = Node.zero := fun i => by
    by_cases h1 : 1 ≤ i
    · rw [at_nd h1, nd_new]
    · refine at_none ?_
      cases hh : (Tab.new room).has i with
      | false => rfl
      | true => have := has_rng hh; omega
  have hh : ∀ i, (Tab.new room).has i = false := fun i => by
    cases hh : (Tab.new room).has i with
    | false => rfl
    | true => exact absurd (by rw [hz]; rfl) (has_kind'.1 hh)
  have hl : ∀ i, (Tab.new room).links i = 0 := fun i => by
    by_cases z : (Tab.new room).links i = 0
    · exact z
    · obtain ⟨d, e, he, _⟩ := (links_pos hg.wf).1 (show 0 < (Tab.new room).links i by have := links_nonneg (Tab.new room) i; omega)
      rw [hz] at he; cases he
  unfold Tab.add at he ⊢
  by_cases hok : nodeOk r.made = true
  case neg => rw [if_neg hok] at he; cases he
  rw [if_pos hok]
  have hf : (Tab.new room).free = some 0 := free_some (by omega) (fun j hj => absurd hj (Nat.not_lt_zero _)) (hh _)
  rw [hf]
  show BT ((Tab.new room).put 0 r.made) 1 ∧ (∀ i, ((Tab.new room).put 0 r.made).links i = 0) ∧ _
  have hat : ∀ i, ((Tab.new room).put 0 r.made).at i = if i = 1 then r.made else Node.zero := fun i => by
    rw [at_put hg (by omega) (.inr hok), hz]; rfl
  have hgp := put_good hg (n := r.made) (.inr hok) 0
  have hlp : ∀ i, ((Tab.new room).put 0 r.made).links i = 0 := fun i => by
    have := links_put hg (k := 0) (by omega) (n := r.made) (.inr hok) i
    rw [hl, made_ents, nd_new, cntE_zero] at this
    simpa using this
  have hne : ∀ d i, ¬ ((Tab.new room).put 0 r.made).ent d i := fun d i ⟨e, he, _⟩ => by
    rw [hat] at he
    split at he <;> cases he
  refine ⟨⟨hgp, fun i => ?_, Int.le_refl _, by rw [hat, if_pos rfl]; exact hk, fun d i hd => absurd hd (hne d i), fun i hi hki => ?_, fun i hi hi2 => by omega⟩, hlp, rfl⟩
  · rw [has_kind', hat]
    split
    · rename_i e
      have : r.made.kind = 2 := hk
      exact ⟨fun _ => by omega, fun _ => by omega⟩
    · exact ⟨fun h => absurd rfl h, fun h => by omega⟩
  · rw [hat, if_neg (by omega)] at hki; cases hki
theorem bt_from : ∀ {l : List Raw} {T : Tab} {i m : Int}, BT T m → ∀ T', (buildFrom T i l).1 = some T' → ∃ m', BT T' m'
  | [], T, i, m, h, T', e => by cases e; exact ⟨m, h⟩
  | r :: l, T, i, m, h, T', e => by
    rw [buildFrom_cons] at e
    split at e
    · rename_i h0
      exact bt_from (bt_one h h0).1 T' e
    · cases e
theorem bt_build {room : Int} {l : List Raw} {T : Tab} (h : (build room l).1 = some T) : ∃ m, BT T m := by
  cases l with
  | nil => cases h
  | cons r l =>
    rw [build_cons] at h
    split at h
    · cases h
    · rename_i h0
      split at h
      · cases h
      · rename_i h1
        have hk : r.kind = 2 := Decidable.of_not_not (fun q => h0 (.inl q))
        exact bt_from (bt_first hk (Decidable.of_not_not h1)).1 T h
theorem build_tree {room : Int} {l : List Raw} {T : Tab} (h : (build room l).1 = some T) : T.tree := by
  obtain ⟨m, hm⟩ := bt_build h
  exact hm.tree
end Abs
end Go.Proofs.Ytpifnlodilcgkaa
