import Derived.Test.YtpifnlodilcgkaaGE
import Derived.Test.YtpifnlodilcgkaaGS
import Derived.Test.YtpifnlodilcgkaaGI
import Derived.Test.YtpifnlodilcgkaaZ7
set_option linter.unusedVariables false
namespace Go.Proofs.Ytpifnlodilcgkaa
namespace Abs
set_option maxRecDepth 10000
attribute [local irreducible] AOps AW ACalls thenQ inBlk noGoto

/-! ### what is made: plain law -/
structure PlantF (T : Tab) (c : Cred) (r : Found) (m : Node) (U : Tab) (id : Int) : Prop where
  good : U.good
  room : U.room = T.room
  ok : nodeOk m = true
  dir : (T.at r.dir).kind = 2
  with_ : (T.at r.dir).withE r.name id = 0
  ne : r.dir ≠ id
  new : T.has id = false
  id1 : 1 ≤ id
  at_ : ∀ i, U.at i = if i = r.dir then (T.at r.dir).withN r.name id else if i = id then m else T.at i
  links : m.ents = [] → ∀ i, U.links i = T.links i + if i = id then 1 else 0
  used : U.used = T.used + 1
theorem plant_none {T : Tab} (hg : T.good) (c : Cred) (r : Found × Int) (mk : Node → Node) (h : ¬ (T.plant c r mk).2.2 = 0) : (T.plant c r mk).1 = T := by
  unfold Tab.plant at h ⊢
  by_cases h1 : ¬ r.2 = 0
  · rw [if_pos h1]
  rw [if_neg h1] at h ⊢
  by_cases h2 : ¬ r.1.node = 0
  · rw [if_pos h2]
  rw [if_neg h2] at h ⊢
  by_cases h3 : T.can c r.1.dir 3 = false
  · rw [if_pos h3]
  rw [if_neg h3] at h ⊢
  by_cases h4 : 8 ≤ ((T.at r.1.dir).ents.length : Int)
  · rw [if_pos h4]
  rw [if_neg h4] at h ⊢
  by_cases h5 : T.used = T.room
  · rw [if_pos h5]
  rw [if_neg h5] at h ⊢
  generalize madeIn c (T.at r.1.dir) (mk (T.at r.1.dir)) = m at h ⊢
  have hh : T.has r.1.dir = true := can_has (by simpa using h3)
  rcases add_cases T m with ⟨k, hf, hok, ha⟩ | ⟨hf, hok, ha⟩ | ⟨hok, ha⟩
  · rw [ha, if_neg (fun q => q rfl)] at h ⊢
    simp only at h ⊢
    by_cases h6 : ¬ (T.at r.1.dir).withE r.1.name ((k : Int) + 1) = 0
    · rw [if_pos h6, drop_add hg hf hok]
    · rw [if_neg h6] at h
      have h6' : (T.at r.1.dir).withE r.1.name ((k : Int) + 1) = 0 := Decidable.of_not_not h6
      obtain ⟨j1, j2⟩ := add_has hg hf hok
      obtain ⟨j3, j4, j5⟩ := j2 r.1.dir hh
      obtain ⟨p1, -⟩ := put_with (T := T.put k m) (put_good hg (.inr hok) k) (p := r.1.dir) j3 (name := r.1.name) (id := (k : Int) + 1) (by rw [j5]; exact h6')
      rw [j5] at p1
      rw [p1] at h
      exact absurd rfl h
  · rw [ha, if_pos (show ¬ (28 : Int) = 0 by decide)]
  · rw [ha, if_pos (show ¬ (22 : Int) = 0 by decide)]
theorem plant_ok {T : Tab} (hg : T.good) (c : Cred) (r : Found × Int) (mk : Node → Node) (h : (T.plant c r mk).2.2 = 0) :
    r.2 = 0 ∧ r.1.node = 0 ∧ PlantF T c r.1 (madeIn c (T.at r.1.dir) (mk (T.at r.1.dir))) (T.plant c r mk).1 (T.plant c r mk).2.1 := by
  unfold Tab.plant at h ⊢
  by_cases h1 : ¬ r.2 = 0
  · rw [if_pos h1] at h; exact absurd h h1
  rw [if_neg h1] at h ⊢
  by_cases h2 : ¬ r.1.node = 0
  · rw [if_pos h2] at h; exact absurd (show (17 : Int) = 0 from h) (by decide)
  rw [if_neg h2] at h ⊢
  by_cases h3 : T.can c r.1.dir 3 = false
  · rw [if_pos h3] at h; exact absurd (show (13 : Int) = 0 from h) (by decide)
  rw [if_neg h3] at h ⊢
  by_cases h4 : 8 ≤ ((T.at r.1.dir).ents.length : Int)
  · rw [if_pos h4] at h; exact absurd (show (28 : Int) = 0 from h) (by decide)
  rw [if_neg h4] at h ⊢
  by_cases h5 : T.used = T.room
  · rw [if_pos h5] at h; exact absurd (show (28 : Int) = 0 from h) (by decide)
  rw [if_neg h5] at h ⊢
  refine ⟨Decidable.of_not_not h1, Decidable.of_not_not h2, ?_⟩
  generalize madeIn c (T.at r.1.dir) (mk (T.at r.1.dir)) = m at h ⊢
  have hh : T.has r.1.dir = true := can_has (by simpa using h3)
  rcases add_cases T m with ⟨k, hf, hok, ha⟩ | ⟨hf, hok, ha⟩ | ⟨hok, ha⟩
  · rw [ha, if_neg (fun q => q rfl)] at h ⊢
    simp only at h ⊢
    by_cases h6 : ¬ (T.at r.1.dir).withE r.1.name ((k : Int) + 1) = 0
    · rw [if_pos h6] at h; exact absurd h h6
    · rw [if_neg h6]
      have h6' : (T.at r.1.dir).withE r.1.name ((k : Int) + 1) = 0 := Decidable.of_not_not h6
      obtain ⟨j1, j2⟩ := add_has hg hf hok
      obtain ⟨j3, j4, j5⟩ := j2 r.1.dir hh
      obtain ⟨f1, f2⟩ := free_spec hf
      have hgk := put_good hg (.inr hok) k
      obtain ⟨p1, p2, p3, p4, p5, p6⟩ := put_with (T := T.put k m) hgk (p := r.1.dir) j3 (name := r.1.name) (id := (k : Int) + 1) (by rw [j5]; exact h6')
      rw [j5] at p1 p2 p3 p4 p6
      have hat := at_put hg f1 (.inr hok)
      rw [p1]
      have hwk := (withE_zero h6').1
      refine ⟨p3, rfl, hok, hwk, h6', j4, f2, by show (1 : Int) ≤ (k : Int) + 1; omega, fun i => ?_, fun he i => ?_, ?_⟩
      · show (Tab.put (T.put k m) _ _).at i = _
        rw [p4, hat]
      · show (Tab.put (T.put k m) _ _).links i = T.links i + if i = (k : Int) + 1 then 1 else 0
        rw [p6]
        have h8 := links_put hg f1 (.inr hok) i
        have h9 : T.nd k = Node.zero := by
          have := at_none f2
          exact this
        rw [h9, show cntE Node.zero i = 0 from rfl, show cntE m i = 0 by unfold cntE; rw [he]; rfl] at h8
        omega
      · show (Tab.put (T.put k m) _ _).used = _
        rw [used_same hgk j3 (ok_kind p2)]
        have h8 := used_put hg.wf f1 m
        rw [f2, decide_eq_false (ok_kind hok)] at h8
        rw [h8]; show T.used + (1 - 0) = T.used + 1; omega
  · rw [ha, if_pos (show ¬ (28 : Int) = 0 by decide)] at h; exact absurd (show (28 : Int) = 0 from h) (by decide)
  · rw [ha, if_pos (show ¬ (22 : Int) = 0 by decide)] at h; exact absurd (show (22 : Int) = 0 from h) (by decide)
theorem plant_mem {T U : Tab} {c : Cred} {r : Found} {m : Node} {id : Int} (h : PlantF T c r m U id) (he : m.ents = []) (i : Int) (e : Ent) : e ∈ (U.at i).ents ↔ e ∈ (T.at i).ents ∨ (i = r.dir ∧ e = ⟨r.name, id⟩) := by
  rw [h.at_]
  split
  · rename_i z
    rw [withN_ents h.with_, z]
    show e ∈ insE _ _ ↔ _
    rw [insE_mem]
    exact ⟨fun y => y.elim (fun y => .inr ⟨rfl, y⟩) .inl, fun y => y.elim .inr (fun y => .inl y.2)⟩
  · rename_i z
    split
    · rename_i y
      rw [he, y, at_none h.new]
      exact ⟨fun q => (by cases q), fun q => q.elim (fun q => (by cases q)) (fun q => absurd q.1.symm h.ne)⟩
    · exact ⟨.inl, fun y => y.elim (fun y => y) (fun y => absurd y.1 z)⟩
theorem plant_kind {T U : Tab} {c : Cred} {r : Found} {m : Node} {id : Int} (h : PlantF T c r m U id) {i : Int} (hi : i ≠ id) : ∃ l, U.at i = { T.at i with ents := l } := by
  rw [h.at_]
  split
  · rename_i z
    rw [withN_ents h.with_, z]; exact ⟨_, rfl⟩
  · first | (rw [if_neg hi]; exact ⟨_, rfl⟩) | exact ⟨_, rfl⟩
theorem plant_find {T U : Tab} (hg : T.good) {c : Cred} {r : Found} {m : Node} {id : Int} (h : PlantF T c r m U id) (he : m.ents = []) {i : Int} {n : ByteArray} (hk : (T.at i).kind = 2) : (U.at i).find n = if i = r.dir ∧ n = r.name then id else (T.at i).find n := by
  have hi : i ≠ id := fun q => by rw [q, at_none h.new] at hk; cases hk
  obtain ⟨l, hl⟩ := plant_kind h hi
  have hku : (U.at i).kind = 2 := by rw [hl]; exact hk
  have hru := (dir_rising h.good hku).2.2
  have hrt := (dir_rising hg hk).2.2
  by_cases z1 : i = r.dir ∧ n = r.name
  · rw [if_pos z1, z1.2]
    exact find_of_mem (e := ⟨r.name, id⟩) hru ((plant_mem h he i _).2 (.inr ⟨z1.1, rfl⟩))
  rw [if_neg z1]
  by_cases z3 : (T.at i).find n = 0
  · rw [z3]
    refine (find_zero hru).2 (fun e hm hn => ?_)
    rcases (plant_mem h he i e).1 hm with y | y
    · exact (find_zero hrt).1 z3 e y hn
    · exact z1 ⟨y.1, by rw [← hn, y.2]⟩
  · obtain ⟨e, hm, hn, hnode⟩ := find_has z3
    have := find_of_mem hru ((plant_mem h he i e).2 (.inl hm))
    rw [← hn, this, hnode, hn]
theorem plant_tree {T U : Tab} (hg : T.good) (ht : T.tree) {c : Cred} {r : Found} {m : Node} {id : Int} (h : PlantF T c r m U id) (he : m.ents = []) : U.tree ∧ U.links id = 1 ∧ U.parent id = r.dir := by
  have hl := h.links he
  have h1 : T.has 1 = true := has_kind'.2 (by rw [ht.root]; decide)
  have hid1 : id ≠ 1 := fun q => by have h2 := h.new; rw [q, h1] at h2; cases h2
  have hlid : T.links id = 0 := by
    by_cases z : T.links id = 0
    · exact z
    · have := links_nonneg T id
      obtain ⟨d, hd⟩ := (links_pos hg.wf).1 (show 0 < T.links id by omega)
      have := ht.ents d id hd
      rw [h.new] at this; cases this
  have hat : ∀ i, i ≠ id → (U.at i).kind = (T.at i).kind := fun i hi => by obtain ⟨l, e⟩ := plant_kind h hi; rw [e]
  have hidk : U.at id = m := by rw [h.at_, if_neg (fun q => h.ne q.symm), if_pos rfl]
  have hent : U.ent r.dir id := ⟨⟨r.name, id⟩, (plant_mem h he _ _).2 (.inr ⟨rfl, rfl⟩), rfl⟩
  have hl1 : U.links id = 1 := by rw [hl, if_pos rfl, hlid]; rfl
  have hpar := one_parent h.good.wf hl1 hent
  have hkeep : ∀ d i, T.ent d i → U.ent d i := fun d i ⟨e, hm, hn⟩ => ⟨e, (plant_mem h he _ _).2 (.inl hm), hn⟩
  have hparT : ∀ j, (T.at j).kind = 2 → j ≠ 1 → U.parent j = T.parent j := fun j hk hj1 => by
    have hji : j ≠ id := fun q => by rw [q, at_none h.new] at hk; cases hk
    obtain ⟨b1, b2⟩ := tree_par hg ht hk hj1
    exact one_parent h.good.wf (by rw [hl, if_neg hji, (ht.dirs j hk hj1).1]; rfl) (hkeep _ _ b1)
  have hup : ∀ j, (T.at j).kind = 2 → ∃ k', U.up k' j = 1 := fun j hk => by
    obtain ⟨k, hk1⟩ := tree_up ht hk
    exact ups_keep hg ht (fun _ => False) (fun i hi _ hi1 => ⟨fun q => q, hparT i hi hi1⟩) k j hk (fun q => q) hk1
  refine ⟨⟨?_, ?_, fun d i hd => ?_, fun i hk hi1 => ?_, fun i hh hk => ?_⟩, hl1, hpar⟩
  · rw [hat 1 (fun q => hid1 q.symm)]; exact ht.root
  · rw [hl, if_neg (fun q => hid1 q.symm), ht.top]; rfl
  · obtain ⟨e, hm, hn⟩ := hd
    rcases (plant_mem h he d e).1 hm with y | y
    · have hT := ht.ents d i ⟨e, y, hn⟩
      have hii : i ≠ id := fun q => by rw [q, h.new] at hT; cases hT
      exact has_kind'.2 (by rw [hat i hii]; exact has_kind'.1 hT)
    · have : i = id := by rw [← hn, y.2]
      rw [this]
      exact has_kind'.2 (by rw [hidk]; exact ok_kind h.ok)
  · by_cases hii : i = id
    · rw [hii]
      refine ⟨hl1, up_rooted h.good (has_kind'.2 (by rw [hidk]; exact ok_kind h.ok)) ?_⟩
      obtain ⟨k, hk1⟩ := hup _ h.dir
      exact ⟨k + 1, by rw [Tab.up, hpar]; exact hk1⟩
    · rw [hat i hii] at hk
      refine ⟨by rw [hl, if_neg hii, (ht.dirs i hk hi1).1]; rfl, up_rooted h.good (has_kind'.2 (by rw [hat i hii, hk]; decide)) (hup i hk)⟩
  · by_cases hii : i = id
    · rw [hii, hl1]; decide
    · have hk0 := has_kind'.1 hh
      rw [hat i hii] at hk hk0
      have := ht.others i (has_kind'.2 hk0) hk
      rw [hl, if_neg hii]; omega
theorem plant_keep {T U : Tab} (hg : T.good) (ht : T.tree) {c : Cred} {r : Found} {m : Node} {id : Int} (h : PlantF T c r m U id) (he : m.ents = []) : KeepW T U c r.dir r.name id 0 ⟨#[]⟩ := by
  have hz : (T.at 0).kind ≠ 2 := by
    rw [at_none (by cases hh : T.has 0 with | false => rfl | true => have := has_rng hh; omega)]; decide
  have hne : ∀ i, T.has i = true → i ≠ id := fun i hi q => by rw [q, h.new] at hi; cases hi
  have hT := plant_tree hg ht h he
  refine ⟨fun i hi => ?_, fun i hi => ?_, fun i hi => ?_, fun i n hk => ?_, fun i hk hi => ?_, ?_, fun hk i n hki hf => ?_, by have := h.id1; omega⟩
  · obtain ⟨l, e⟩ := plant_kind h (hne i hi); rw [e]
  · obtain ⟨l, e⟩ := plant_kind h (hne i hi); rw [e]
  · obtain ⟨l, e⟩ := plant_kind h (hne i hi)
    have hu : U.has i = true := has_kind'.2 (by rw [e]; exact has_kind'.1 hi)
    unfold Tab.can
    rw [hu, hi, e]
  · rw [plant_find hg h he hk]
    split
    · rfl
    · rw [if_neg (fun q => hz (by rw [← q.1]; exact hk))]
  · by_cases h1 : i = 1
    · rw [h1, parent1 hg ht]
      exact parent_none h.good.wf hT.1.top
    · obtain ⟨⟨e, hm, hn⟩, b2⟩ := tree_par hg ht hk h1
      exact one_parent h.good.wf (by rw [h.links he, if_neg hi, (ht.dirs i hk h1).1]; rfl) ⟨e, (plant_mem h he _ _).2 (.inl hm), hn⟩
  · exact (find_zero (dir_rising hg h.dir).2.2).2 (place_none (withE_zero h.with_).2.2.2.1)
  · rw [at_none h.new] at hk; cases hk
/-- What is made is found. -/
theorem plant_found {T : Tab} (hg : T.good) (ht : T.tree) {c : Cred} {path : ByteArray} {mk : Node → Node} (he : ∀ n, (mk n).ents = []) (h : (T.plant c (T.resolve c path false) mk).2.2 = 0) :
    (T.plant c (T.resolve c path false) mk).1.resolve c path false = (⟨(T.resolve c path false).1.dir, (T.resolve c path false).1.name, (T.plant c (T.resolve c path false) mk).2.1⟩, 0) := by
  obtain ⟨a1, a2, a3⟩ := plant_ok hg c _ mk h
  have hem : (madeIn c (T.at (T.resolve c path false).1.dir) (mk (T.at (T.resolve c path false).1.dir))).ents = [] := he _
  have hK := plant_keep hg ht a3 hem
  have hT := plant_tree hg ht a3 hem
  have hn0 : (T.resolve c path false).1.name ≠ ⟨#[]⟩ := fun q => by
    have := (withE_zero a3.with_).2.1
    rw [q] at this
    unfold badName at this
    simp at this
  have hz : (T.at 0).kind ≠ 2 := by
    rw [at_none (by cases hh : T.has 0 with | false => rfl | true => have := has_rng hh; omega)]; decide
  have h1 : T.has 1 = true := has_kind'.2 (by rw [ht.root]; decide)
  have hid1 : (T.plant c (T.resolve c path false) mk).2.1 ≠ 1 := fun q => by
    have := a3.new
    rw [q, h1] at this; cases this
  have hr := resolve_keep hg ht hK hid1 (path := path) (r := (T.resolve c path false).1) (by rw [← a1]) hn0
  rw [plant_find hg a3 hem a3.dir, if_pos ⟨rfl, rfl⟩] at hr
  exact hr.resolve_right (fun q => hz q.2)
end Abs
end Go.Proofs.Ytpifnlodilcgkaa
