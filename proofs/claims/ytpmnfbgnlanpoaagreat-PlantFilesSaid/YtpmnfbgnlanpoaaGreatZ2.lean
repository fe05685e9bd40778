import Derived.Test.YtpmnfbgnlanpoaaGreatZ1
import Derived.Test.YtpmnfbgnlanpoaaGreatM2
set_option linter.unusedVariables false
namespace Go.Proofs.YtpmnfbgnlanpoaaGreat
namespace Abs
set_option maxRecDepth 10000
attribute [local irreducible] AOps AW ACalls thenQ inBlk noGoto

/-! ### what is built is a tree: the plain law -/
structure BT (T : Tab) (m : Int) : Prop where
  good : T.good
  has : ∀ i, T.has i = true ↔ 1 ≤ i ∧ i ≤ m
  pos : 1 ≤ m
  root : (T.at 1).kind = 2
  ents : ∀ d i, T.ent d i → 2 ≤ i ∧ i ≤ m ∧ ((T.at i).kind = 2 → d < i)
  dirs : ∀ i, 2 ≤ i → (T.at i).kind = 2 → T.links i = 1
  links : ∀ i, 2 ≤ i → i ≤ m → 1 ≤ T.links i
theorem BT.room {T : Tab} {m : Int} (h : BT T m) : m ≤ T.room := (has_rng ((h.has m).2 ⟨h.pos, Int.le_refl _⟩)).2
theorem BT.rooted {T : Tab} {m : Int} (h : BT T m) : ∀ (n : Nat) (i : Int), 1 ≤ i → i ≤ n → (T.at i).kind = 2 → T.rooted n i = true
  | 0, i, h1, h2, _ => by omega
  | n + 1, i, h1, h2, hk => by
    rw [Tab.rooted]
    split
    · rfl
    · rename_i hne
      have hl := h.dirs i (by omega) hk
      obtain ⟨d, hd⟩ := (links_pos h.good.wf).1 (show 0 < T.links i by omega)
      have hp := one_parent h.good.wf hl hd
      have h3 := h.ents d i hd
      have h4 := h3.2.2 hk
      have hdh := has_rng (ent_has hd)
      rw [hp]
      refine h.rooted n d (by omega) (by omega) ?_
      obtain ⟨e, he, _⟩ := hd
      rcases at_zero_ok h.good d with z | z
      · rw [z] at he; cases he
      · by_cases hk2 : (T.at d).kind = 2
        · exact hk2
        · exfalso
          rcases nodeOk_kind0 z with k1 | k2 | k3
          · unfold nodeOk at z
            rw [if_pos k1] at z
            simp only [Bool.and_eq_true, decide_eq_true_eq] at z
            have : (T.at d).ents = [] := List.length_eq_zero_iff.1 z.2.1.1
            rw [this] at he; cases he
          · exact hk2 k2
          · unfold nodeOk at z
            rw [if_neg (by omega), if_neg hk2, if_pos k3] at z
            simp only [Bool.and_eq_true, decide_eq_true_eq] at z
            have : (T.at d).ents = [] := List.length_eq_zero_iff.1 (by omega)
            rw [this] at he; cases he
theorem BT.tree {T : Tab} {m : Int} (h : BT T m) : T.tree := by
  have hw := h.good.wf
  have hrm := h.room
  have h24 := hw.2.1
  refine ⟨h.root, ?_, fun d i hd => (h.has i).2 (by have := h.ents d i hd; omega), fun i hk hne => ?_, fun i hi hk => ?_⟩
  · have h0 := links_nonneg T 1
    by_cases e : T.links 1 = 0
    · exact e
    · obtain ⟨d, hd⟩ := (links_pos hw).1 (show 0 < T.links 1 by omega)
      have := (h.ents d 1 hd).1
      omega
  · have hh : T.has i = true := has_kind'.2 (by rw [hk]; decide)
    have hr := (h.has i).1 hh
    exact ⟨h.dirs i (by omega) hk, h.rooted 24 i (by omega) (by omega) hk⟩
  · have hr := (h.has i).1 hi
    have hne : i ≠ 1 := fun e => by subst e; exact hk h.root
    have := h.links i (by omega) hr.2
    omega
theorem cntE_ins (p : Node) (new : Ent) (i : Int) : cntE { p with ents := insE new p.ents } i = cntE p i + if i = new.node then 1 else 0 := by
  unfold cntE
  show cnt i ((insE new p.ents).map (·.node)) = _
  generalize p.ents = l
  have hc : ∀ (a : Int) (A : List Int), cnt i (a :: A) = cnt i A + if i = a then 1 else 0 := fun a A => by
    simp only [cnt, List.filter_cons]
    by_cases e : a = i
    · subst e; simp
    · rw [if_neg (by simpa using e), if_neg (fun q => e q.symm)]; rfl
  induction l with
  | nil => simp only [insE, List.map_cons, List.map_nil, hc]
  | cons a l ih =>
    simp only [insE]
    split
    · simp only [List.map_cons, hc]
    · simp only [List.map_cons, hc, ih]; omega
theorem ent_ins {T U : Tab} {p : Int} {q : Node} {new : Ent} (hat : ∀ i, U.at i = if i = p then q else T.at i) (hq : q.ents = insE new (T.at p).ents) (d i : Int) : U.ent d i ↔ T.ent d i ∨ (d = p ∧ i = new.node) := by
  unfold Tab.ent
  rw [hat]
  by_cases e : d = p
  · subst e
    rw [if_pos rfl, hq]
    simp only [insE_mem]
    constructor
    · rintro ⟨x, rfl | hx, rfl⟩
      · exact .inr ⟨trivial, rfl⟩
      · exact .inl ⟨x, hx, rfl⟩
    · rintro (⟨x, hx, rfl⟩ | ⟨_, rfl⟩)
      · exact ⟨x, .inr hx, rfl⟩
      · exact ⟨new, .inl rfl, rfl⟩
  · rw [if_neg e]
    exact ⟨.inl, fun h => h.elim id (fun h => absurd h.1 e)⟩
/-- An entry more: what it makes of a table. -/
theorem put_with {T : Tab} (hg : T.good) {p : Int} (hp : T.has p = true) {name : ByteArray} {id : Int} (he : (T.at p).withE name id = 0) :
    T.putE p ((T.at p).withN name id) = (T.put (p - 1).toNat ((T.at p).withN name id), 0) ∧ nodeOk ((T.at p).withN name id) = true ∧ (T.put (p - 1).toNat ((T.at p).withN name id)).good ∧
    (∀ i, (T.put (p - 1).toNat ((T.at p).withN name id)).at i = if i = p then (T.at p).withN name id else T.at i) ∧
    (∀ d i, (T.put (p - 1).toNat ((T.at p).withN name id)).ent d i ↔ T.ent d i ∨ (d = p ∧ i = id)) ∧
    ∀ i, (T.put (p - 1).toNat ((T.at p).withN name id)).links i = T.links i + if i = id then 1 else 0 := by
  have hr := has_rng hp
  have hok : nodeOk (T.at p) = true := by
    rcases at_zero_ok hg p with z | z
    · have := has_kind'.1 hp
      rw [z] at this
      exact absurd rfl this
    · exact z
  have hok2 := (stays_with hok he).1
  have hk : (((p - 1).toNat : Nat) : Int) < T.room := by omega
  have hat : ∀ i, (T.put (p - 1).toNat ((T.at p).withN name id)).at i = if i = p then (T.at p).withN name id else T.at i := fun i => by
    rw [at_put hg hk (.inr hok2), show (((p - 1).toNat : Nat) : Int) + 1 = p by omega]
  have hq : ((T.at p).withN name id).ents = insE ⟨name, id⟩ (T.at p).ents := by rw [withN_ents he]
  refine ⟨?_, hok2, put_good hg (.inr hok2) _, hat, fun d i => ent_ins hat hq d i, fun i => ?_⟩
  · unfold Tab.putE
    rw [if_pos hp, if_pos hok2]
  · have := links_put hg hk (.inr hok2) i
    have hnd : T.nd (p - 1).toNat = T.at p := (at_nd (by omega)).symm
    rw [hnd] at this
    have hc := cntE_ins (T.at p) ⟨name, id⟩ i
    rw [← withN_ents he] at hc
    rw [hc] at this
    simp only at this
    split <;> split at this <;> omega
end Abs
end Go.Proofs.YtpmnfbgnlanpoaaGreat
