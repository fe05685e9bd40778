import Derived.Test.YtkopeigfjjbajaaXP
set_option linter.unusedVariables false
namespace Go.Proofs.Ytkopeigfjjbajaa
namespace Abs
set_option maxRecDepth 10000
attribute [local irreducible] AOps AW ACalls thenQ inBlk noGoto

/-! ### a node that is changed, but for what is in it: the plain law -/
structure Like (T U : Tab) : Prop where
  room : U.room = T.room
  kind : ∀ i, (U.at i).kind = (T.at i).kind
  ents : ∀ i, (U.at i).ents = (T.at i).ents
  target : ∀ i, (U.at i).target = (T.at i).target
  links : ∀ i, U.links i = T.links i
  parent : ∀ i, U.parent i = T.parent i
theorem Like.refl (T : Tab) : Like T T := ⟨rfl, fun _ => rfl, fun _ => rfl, fun _ => rfl, fun _ => rfl, fun _ => rfl⟩
theorem Like.trans {T U V : Tab} (h : Like T U) (k : Like U V) : Like T V := ⟨k.room.trans h.room, fun i => (k.kind i).trans (h.kind i), fun i => (k.ents i).trans (h.ents i), fun i => (k.target i).trans (h.target i), fun i => (k.links i).trans (h.links i), fun i => (k.parent i).trans (h.parent i)⟩
theorem Like.has {T U : Tab} (h : Like T U) (i : Int) : U.has i = T.has i := by
  have h1 := has_kind' (T := U) (d := i)
  have h2 := has_kind' (T := T) (d := i)
  rw [h.kind] at h1
  cases hu : U.has i <;> cases ht : T.has i <;> simp_all
theorem rooted_like {T U : Tab} (h : Like T U) : ∀ (n : Nat) (i : Int), U.rooted n i = T.rooted n i
  | 0, i => rfl
  | n + 1, i => by simp only [Tab.rooted, h.parent, rooted_like h n]
theorem Like.tree {T U : Tab} (h : Like T U) (ht : T.tree) : U.tree := ⟨by rw [h.kind]; exact ht.root, by rw [h.links]; exact ht.top, fun d i hd => by
    obtain ⟨e, he, hi⟩ := hd
    rw [h.ents] at he
    rw [h.has]
    exact ht.ents d i ⟨e, he, hi⟩, fun i hk hi => by
    rw [h.kind] at hk
    rw [h.links, rooted_like h]
    exact ht.dirs i hk hi, fun i hh hk => by
    rw [h.has] at hh
    rw [h.kind] at hk
    rw [h.links]
    exact ht.others i hh hk⟩
theorem Like.open {T U : Tab} (h : Like T U) : Open T U rootC := ⟨h.kind, h.ents, h.target, h.parent, fun i hk => by rw [root_can]; exact has_kind'.2 (by rw [h.kind, hk]; decide)⟩
theorem like_put {T : Tab} (hg : T.good) {i : Int} (hh : T.has i = true) {n : Node} (hok : nodeOk n = true) (hk : n.kind = (T.at i).kind) (he : n.ents = (T.at i).ents) (htg : n.target = (T.at i).target) :
    (T.put (i - 1).toNat n).good ∧ (∀ j, (T.put (i - 1).toNat n).at j = if j = i then n else T.at j) ∧ Like T (T.put (i - 1).toNat n) := by
  have hr := has_rng hh
  have hkr : (((i - 1).toNat : Nat) : Int) < T.room := by omega
  have hi : (((i - 1).toNat : Nat) : Int) + 1 = i := by omega
  have hat : ∀ j, (T.put (i - 1).toNat n).at j = if j = i then n else T.at j := fun j => by rw [at_put hg hkr (.inr hok), hi]
  have he' : ∀ j, ((T.put (i - 1).toNat n).at j).ents = (T.at j).ents := fun j => by
    rw [hat]; split
    · rename_i e; rw [e, he]
    · rfl
  refine ⟨put_good hg (.inr hok) _, hat, rfl, fun j => ?_, he', fun j => ?_, fun j => ?_, fun j => ?_⟩
  · rw [hat]; split
    · rename_i e; rw [e, hk]
    · rfl
  · rw [hat]; split
    · rename_i e; rw [e, htg]
    · rfl
  · have := links_put hg hkr (.inr hok) j
    rw [show T.nd (i - 1).toNat = T.at ((((i - 1).toNat : Nat) : Int) + 1) from rfl, hi] at this
    have hc : cntE n j = cntE (T.at i) j := by unfold cntE; rw [he]
    omega
  · unfold Tab.parent
    rw [tells_same he', show (T.put (i - 1).toNat n).room = T.room from rfl]
theorem chmod_like {T : Tab} (hg : T.good) (ht : T.tree) (c : Cred) (path : ByteArray) (mode : Int) : (T.chmod c path mode).2.good ∧ Like T (T.chmod c path mode).2 := by
  unfold Tab.chmod
  split
  · exact ⟨hg, .refl T⟩
  · unfold Tab.chm
    split
    · exact ⟨hg, .refl T⟩
    · rename_i h1
      have h1' := Decidable.of_not_not h1
      split
      · exact ⟨hg, .refl T⟩
      · rename_i h2
        have hh : T.has (T.resolve c path true).1.node = true := by simpa using h2
        split
        · exact ⟨hg, .refl T⟩
        · obtain ⟨a, -, b⟩ := like_put hg hh (newMode_ok hg hh (found_nolink hg ht h1') c mode) rfl rfl rfl
          exact ⟨a, b⟩
theorem chown_like {T : Tab} (hg : T.good) (c : Cred) (path : ByteArray) (uid gid : Int) (fo : Bool) : (T.chown c path uid gid fo).2.good ∧ Like T (T.chown c path uid gid fo).2 := by
  unfold Tab.chown
  split
  · exact ⟨hg, .refl T⟩
  · rename_i h0
    unfold Tab.cho
    split
    · exact ⟨hg, .refl T⟩
    · split
      · exact ⟨hg, .refl T⟩
      · rename_i h2
        have hh : T.has (T.resolve c path fo).1.node = true := by simpa using h2
        split
        · exact ⟨hg, .refl T⟩
        · split
          · exact ⟨hg, .refl T⟩
          · obtain ⟨a, -, b⟩ := like_put hg hh (newOwn_ok hg hh c (uid := uid) (gid := gid) (by omega) (by omega)) rfl rfl rfl
            exact ⟨a, b⟩
theorem root_mayMode (u : Int) : rootC.mayMode u = true := by unfold Cred.mayMode Cred.root rootC; simp
theorem root_mayOwn (a b u g : Int) : rootC.mayOwn a b u g = true := by unfold Cred.mayOwn Cred.root rootC; simp
theorem root_modeFor (k g m : Int) : rootC.modeFor k g m = m % 4096 := by unfold Cred.modeFor Cred.root rootC; simp
theorem root_written (k m : Int) : rootC.written k m = m % 4096 := by unfold Cred.written Cred.root rootC; simp
theorem attrRoot_plain {T : Tab} (hg : T.good) (ht : T.tree) {path : ByteArray} {m u g : Int} (hm : 0 ≤ m ∧ m ≤ 4095) (hu : 0 ≤ u ∧ u ≤ 65535) (hgi : 0 ≤ g ∧ g ≤ 65535) :
    (¬ (T.look rootC path true).2 = 0 → (T.chmod rootC path m).1 = (T.look rootC path true).2 ∧ ((T.chmod rootC path m).2.chown rootC path u g true).1 = (T.look rootC path true).2) ∧
    ((T.look rootC path true).2 = 0 → (T.chmod rootC path m).1 = 0 ∧ ((T.chmod rootC path m).2.chown rootC path u g true).1 = 0 ∧
      (((T.chmod rootC path m).2.chown rootC path u g true).2.at (T.look rootC path true).1.node).mode = m ∧ (((T.chmod rootC path m).2.chown rootC path u g true).2.at (T.look rootC path true).1.node).uid = u ∧ (((T.chmod rootC path m).2.chown rootC path u g true).2.at (T.look rootC path true).1.node).gid = g) := by
  obtain ⟨g1, l1⟩ := chmod_like hg ht rootC path m
  have hres : (T.chmod rootC path m).2.resolve rootC path true = T.resolve rootC path true := resolve_open l1.open path true
  have hhas := l1.has
  have hch : T.chmod rootC path m = T.chm rootC path m := by unfold Tab.chmod; rw [if_neg (by omega)]
  have hco : (T.chmod rootC path m).2.chown rootC path u g true = (T.chmod rootC path m).2.cho rootC path u g true := by unfold Tab.chown; rw [if_neg (by omega)]
  rw [hco]
  unfold Tab.cho
  rw [hres, hhas, root_mayOwn]
  by_cases h1 : (T.resolve rootC path true).2 = 0
  · have hnn : ¬ ¬ (T.resolve rootC path true).2 = 0 := fun q => q h1
    rw [if_neg hnn]
    cases h2 : T.has (T.resolve rootC path true).1.node with
    | false =>
      have hl : T.look rootC path true = (Stat.zero, 2) := by unfold Tab.look; rw [if_pos h1, h2, if_neg (by decide)]
      have hc : (T.chmod rootC path m).1 = 2 := by rw [hch]; unfold Tab.chm; rw [if_neg hnn, if_pos h2]
      rw [hl, hc, if_pos rfl]
      exact ⟨fun _ => ⟨rfl, rfl⟩, fun q => absurd q (by decide)⟩
    | true =>
      have hl : T.look rootC path true = (T.stat (T.resolve rootC path true).1.node, 0) := by unfold Tab.look; rw [if_pos h1, h2, if_pos rfl]
      have hln : (T.stat (T.resolve rootC path true).1.node).node = (T.resolve rootC path true).1.node := by unfold Tab.stat; rw [if_pos h2]
      have hc : T.chmod rootC path m = (0, T.put ((T.resolve rootC path true).1.node - 1).toNat (newMode rootC (T.at (T.resolve rootC path true).1.node) m)) := by
        rw [hch]; unfold Tab.chm; rw [if_neg hnn, if_neg (by rw [h2]; decide), root_mayMode, if_neg (by decide)]
      obtain ⟨a1, a2, a3⟩ := like_put hg h2 (newMode_ok hg h2 (found_nolink hg ht h1) rootC m) rfl rfl rfl
      rw [hl, if_neg (by decide), if_neg (by decide), if_neg (by omega)]
      rw [hc] at g1 l1 hhas ⊢
      dsimp only at g1 l1 hhas ⊢
      generalize T.put ((T.resolve rootC path true).1.node - 1).toNat (newMode rootC (T.at (T.resolve rootC path true).1.node) m) = P at a1 a2 a3 g1 l1 hhas ⊢
      have h2' := (hhas _).trans h2
      have hok2 := newOwn_ok g1 h2' rootC (uid := u) (gid := g) (by omega) (by omega)
      obtain ⟨b1, b2, b3⟩ := like_put g1 h2' hok2 rfl rfl rfl
      refine ⟨fun q => absurd rfl q, fun _ => ⟨rfl, rfl, ?_, ?_, ?_⟩⟩ <;> rw [hln, b2, if_pos rfl, a2, if_pos rfl]
      · unfold newOwn newMode
        simp only [root_written, root_modeFor]
        omega
      · unfold newOwn; exact if_pos hu.1
      · unfold newOwn; exact if_pos hgi.1
  · rw [if_pos h1]
    have hl : T.look rootC path true = (Stat.zero, (T.resolve rootC path true).2) := by unfold Tab.look; rw [if_neg h1]
    have hc : (T.chmod rootC path m).1 = (T.resolve rootC path true).2 := by rw [hch]; unfold Tab.chm; rw [if_pos h1]
    rw [hl, hc]
    exact ⟨fun _ => ⟨rfl, rfl⟩, fun q => absurd q h1⟩
end Abs
end Go.Proofs.Ytkopeigfjjbajaa
