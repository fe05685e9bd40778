import Derived.Test.YtkopeigfjjbajaaZF
set_option linter.unusedVariables false
namespace Go.Proofs.Ytkopeigfjjbajaa
namespace Abs
set_option maxRecDepth 10000
attribute [local irreducible] AOps AW ACalls thenQ inBlk noGoto

/-! ### AttrLast: the plain law, first part -/
theorem look_kind' {T : Tab} {c : Cred} {path : ByteArray} {fo : Bool} (h : (T.look c path fo).2 = 0) : ∃ i, T.has i = true ∧ T.look c path fo = (T.stat i, 0) ∧ (T.stat i).node = i ∧ (T.stat i).kind = (T.at i).kind ∧ (T.stat i).links = T.links i ∧ (T.resolve c path fo).2 = 0 ∧ (T.resolve c path fo).1.node = i := by
  unfold Tab.look at h ⊢
  by_cases h1 : (T.resolve c path fo).2 = 0
  · rw [if_pos h1] at h ⊢
    cases h2 : T.has (T.resolve c path fo).1.node with
    | false => rw [h2, if_neg (by decide)] at h; exact absurd h (by decide)
    | true =>
      rw [if_pos rfl]
      refine ⟨_, h2, rfl, ?_, ?_, ?_, h1, rfl⟩ <;> (unfold Tab.stat; rw [if_pos h2])
  · rw [if_neg h1] at h
    exact absurd h h1
theorem chm_cases (T : Tab) (c : Cred) (path : ByteArray) (mode : Int) : (¬ (T.chm c path mode).1 = 0 ∧ (T.chm c path mode).2 = T ∧ ∀ m, T.chm c path m = ((T.chm c path mode).1, T)) ∨
    ((T.resolve c path true).2 = 0 ∧ T.has (T.resolve c path true).1.node = true ∧ c.mayMode (T.at (T.resolve c path true).1.node).uid = true ∧
      ∀ m, T.chm c path m = (0, T.put ((T.resolve c path true).1.node - 1).toNat (newMode c (T.at (T.resolve c path true).1.node) m))) := by
  unfold Tab.chm
  by_cases h1 : (T.resolve c path true).2 = 0
  · have hnn : ¬ ¬ (T.resolve c path true).2 = 0 := fun q => q h1
    by_cases h2 : T.has (T.resolve c path true).1.node = false
    · left
      simp only [if_neg hnn, if_pos h2]
      exact ⟨by decide, trivial, fun _ => trivial⟩
    · by_cases h3 : c.mayMode (T.at (T.resolve c path true).1.node).uid = false
      · left
        simp only [if_neg hnn, if_neg h2, if_pos h3]
        exact ⟨by decide, trivial, fun _ => trivial⟩
      · right
        simp only [if_neg hnn, if_neg h2, if_neg h3]
        exact ⟨h1, by simpa using h2, by simpa using h3, fun _ => trivial⟩
  · left
    simp only [if_pos h1]
    exact ⟨h1, trivial, fun _ => trivial⟩
theorem attrLast_one {T : Tab} (hg : T.good) (ht : T.tree) {c : Cred} {path : ByteArray} {x y : Int} (hx : 0 ≤ x ∧ x ≤ 4095) (hy : 0 ≤ y ∧ y ≤ 4095)
    (hS : (((T.chmod c path x).2.chmod c path y).2.look c path true).2 = 0) :
    (T.chmod c path x).1 = ((T.chmod c path x).2.chmod c path y).1 ∧ ((T.chmod c path x).2.chmod c path y).1 = (T.chmod c path y).1 ∧ ((T.chmod c path x).2.chmod c path y).2.same (T.chmod c path y).2 = true := by
  have hr : ∀ (V : Tab) (m : Int), 0 ≤ m ∧ m ≤ 4095 → V.chmod c path m = V.chm c path m := fun V m hm => by unfold Tab.chmod; rw [if_neg (by omega)]
  obtain ⟨hg1, l1⟩ := chmod_like hg ht c path x
  rw [hr T x hx] at hS hg1 l1 ⊢
  rw [hr _ y hy] at hS ⊢
  rw [hr T y hy]
  rcases chm_cases T c path x with ⟨h1, h2, h3⟩ | ⟨h1, h2, h3, h4⟩
  · rw [h2, h3 y]
    exact ⟨rfl, rfl, same_self' T⟩
  · obtain ⟨-, a2, a3⟩ := like_put hg h2 (newMode_ok hg h2 (found_nolink hg ht h1) c x) rfl rfl rfl
    obtain ⟨-, b2, -⟩ := like_put hg h2 (newMode_ok hg h2 (found_nolink hg ht h1) c y) rfl rfl rfl
    have hres : ∀ e : (((T.chm c path x).2).resolve c path true).2 ≠ 13, ((T.chm c path x).2).resolve c path true = T.resolve c path true := fun e => resolve_two l1 (by rw [h1]; decide) e
    rw [h4 y]
    have hA : T.chm c path x = (0, T.put ((T.resolve c path true).1.node - 1).toNat (newMode c (T.at (T.resolve c path true).1.node) x)) := h4 x
    rw [hA] at hres hS hg1 l1 ⊢
    dsimp only at hres hS hg1 l1 ⊢
    generalize T.put ((T.resolve c path true).1.node - 1).toNat (newMode c (T.at (T.resolve c path true).1.node) x) = P at a2 a3 hres hS hg1 l1 ⊢
    rcases chm_cases P c path y with ⟨p1, p2, p3⟩ | ⟨p1, p2, p3, p4⟩
    · exfalso
      rw [p2] at hS
      obtain ⟨i, i1, -, -, -, -, i5, i6⟩ := look_kind' hS
      have e := hres (by rw [i5]; decide)
      apply p1
      unfold Tab.chm
      rw [e, if_neg (fun q => q h1), l1.has, h2, if_neg (by decide), a2, if_pos rfl, show (newMode c (T.at (T.resolve c path true).1.node) x).uid = (T.at (T.resolve c path true).1.node).uid from rfl, h3, if_neg (by decide)]
    · have e := hres (by rw [p1]; decide)
      rw [p4 y, e]
      rw [e] at p2
      have hnl : ¬ (P.at (T.resolve c path true).1.node).kind = 3 := by rw [l1.kind]; exact found_nolink hg ht h1
      obtain ⟨-, d2, -⟩ := like_put hg1 p2 (newMode_ok hg1 p2 hnl c y) rfl rfl rfl
      refine ⟨rfl, rfl, same_of_at (fun j => ?_)⟩
      dsimp only
      rw [b2, d2]
      by_cases ej : j = (T.resolve c path true).1.node
      · rw [if_pos ej, if_pos ej, a2, if_pos rfl]; rfl
      · rw [if_neg ej, if_neg ej, a2, if_neg ej]
theorem attrLast_two {V : Tab} (hg : V.good) (ht : V.tree) {c : Cred} {path : ByteArray} {a b : Int} (ha : 0 ≤ a ∧ a ≤ 65535) (hb : 0 ≤ b ∧ b ≤ 65535) (hS : (V.look c path true).2 = 0) :
    (V.chown rootC path a b true).1 = 0 ∧ ((V.chown rootC path a b true).2.chown rootC path (V.look c path true).1.uid (V.look c path true).1.gid true).1 = 0 ∧
    ((V.chown rootC path a b true).2.chown rootC path (V.look c path true).1.uid (V.look c path true).1.gid true).2.same V = true := by
  obtain ⟨i, i1, i2, i3, -, -, i5, i6⟩ := look_kind' hS
  have hrt : V.resolve rootC path true = V.resolve c path true := by
    rcases (resolve_root V c path true).1 with e | e
    · exact e.symm
    · rw [e] at i5; exact absurd i5 (by decide)
  have hok := has_ok hg i1
  obtain ⟨k1, k2, k3⟩ := ok_ids hok
  have hu : (V.look c path true).1.uid = (V.at i).uid := by rw [i2]; unfold Tab.stat; rw [if_pos i1]
  have hgd : (V.look c path true).1.gid = (V.at i).gid := by rw [i2]; unfold Tab.stat; rw [if_pos i1]
  rw [hu, hgd]
  unfold idOk at k1 k2
  simp only [Bool.and_eq_true, decide_eq_true_eq] at k1 k2
  have hc1 : V.chown rootC path a b true = (0, V.put (i - 1).toNat (newOwn rootC (V.at i) a b)) := by
    unfold Tab.chown Tab.cho
    rw [if_neg (by omega), hrt, if_neg (fun q => q i5), i6, i1, if_neg (by decide), root_mayOwn, if_neg (by decide), if_neg (by omega)]
  obtain ⟨g1, l1⟩ := chown_like hg rootC path a b true
  obtain ⟨-, a2, -⟩ := like_put hg i1 (newOwn_ok hg i1 rootC (uid := a) (gid := b) (by omega) (by omega)) rfl rfl rfl
  have hres2 : (V.chown rootC path a b true).2.resolve rootC path true = V.resolve c path true := by rw [resolve_open l1.open, hrt]
  rw [hc1] at g1 l1 hres2 ⊢
  dsimp only at g1 l1 hres2 ⊢
  generalize V.put (i - 1).toNat (newOwn rootC (V.at i) a b) = P at a2 g1 l1 hres2 ⊢
  have hPi : P.has i = true := by rw [l1.has]; exact i1
  have hc2 : P.chown rootC path (V.at i).uid (V.at i).gid true = (0, P.put (i - 1).toNat (newOwn rootC (P.at i) (V.at i).uid (V.at i).gid)) := by
    unfold Tab.chown Tab.cho
    rw [if_neg (by omega), hres2, if_neg (fun q => q i5), i6, hPi, if_neg (by decide), root_mayOwn, if_neg (by decide), if_neg (by omega)]
  obtain ⟨-, b2, -⟩ := like_put g1 hPi (newOwn_ok g1 hPi rootC (uid := (V.at i).uid) (gid := (V.at i).gid) (by omega) (by omega)) rfl rfl rfl
  rw [hc2]
  refine ⟨rfl, rfl, same_of_at (fun j => ?_)⟩
  dsimp only
  rw [b2]
  by_cases ej : j = i
  · rw [if_pos ej, a2, if_pos rfl, ej]
    unfold newOwn
    simp only [root_written]
    rw [if_pos k1.1, if_pos k2.1, show (V.at i).mode % 4096 % 4096 = (V.at i).mode by omega]
  · rw [if_neg ej, a2, if_neg ej]
end Abs
end Go.Proofs.Ytkopeigfjjbajaa
