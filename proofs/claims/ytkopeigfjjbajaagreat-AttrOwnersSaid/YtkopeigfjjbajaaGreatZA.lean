import Derived.Test.YtkopeigfjjbajaaGreatXP
set_option linter.unusedVariables false
namespace Go.Proofs.YtkopeigfjjbajaaGreat
namespace Abs
set_option maxRecDepth 10000
attribute [local irreducible] AOps AW ACalls thenQ inBlk noGoto

/-! ### a node that is changed, but for what is in it: the plain law -/
structure Like (T U : Tab) : Prop where
  room : U.room = T.room
  kind : ∀ i, (U.at i).kind = (T.at i).kind
  ents : ∀ i, (U.at i).ents = (T.at i).ents
  target : ∀ i, (U.at i).target = (T.at i).target
  links : ∀ i, U.links i = T.links i
  parent : ∀ i, U.parent i = T.parent i
theorem Like.refl (T : Tab) : Like T T := ⟨rfl, fun _ => rfl, fun _ => rfl, fun _ => rfl, fun _ => rfl, fun _ => rfl⟩
theorem Like.trans {T U V : Tab} (h : Like T U) (k : Like U V) : Like T V := ⟨k.room.trans h.room, fun i => (k.kind i).trans (h.kind i), fun i => (k.ents i).trans (h.ents i), fun i => (k.target i).trans (h.target i), fun i => (k.links i).trans (h.links i), fun i => (k.parent i).trans (h.parent i)⟩
theorem Like.has {T U : Tab} (h : Like T U) (i : Int) : U.has i = T.has i := by
  have h1 := has_kind' (T := U) (d := i)
  have h2 := has_kind' (T := T) (d := i)
  rw [h.kind] at h1
  cases hu : U.has i <;> cases ht : T.has i <;> simp_all
theorem rooted_like {T U : Tab} (h : Like T U) : ∀ (n : Nat) (i : Int), U.rooted n i = T.rooted n i
  | 0, i => rfl
  | n + 1, i => by simp only [Tab.rooted, h.parent, rooted_like h n]
theorem Like.tree {T U : Tab} (h : Like T U) (ht : T.tree) : U.tree := ⟨by rw [h.kind]; exact ht.root, by rw [h.links]; exact ht.top, fun d i hd => by
    obtain ⟨e, he, hi⟩ := hd
    rw [h.ents] at he
    rw [h.has]
    exact ht.ents d i ⟨e, he, hi⟩, fun i hk hi => by
    rw [h.kind] at hk
    rw [h.links, rooted_like h]
    exact ht.dirs i hk hi, fun i hh hk => by
    rw [h.has] at hh
    rw [h.kind] at hk
    rw [h.links]
    exact ht.others i hh hk⟩
theorem Like.open {T U : Tab} (h : Like T U) : Open T U rootC := ⟨h.kind, h.ents, h.target, h.parent, fun i hk => by rw [root_can]; exact has_kind'.2 (by rw [h.kind, hk]; decide)⟩
theorem like_put {T : Tab} (hg : T.good) {i : Int} (hh : T.has i = true) {n : Node} (hok : nodeOk n = true) (hk : n.kind = (T.at i).kind) (he : n.ents = (T.at i).ents) (htg : n.target = (T.at i).target) :
    (T.put (i - 1).toNat n).good ∧ (∀ j, (T.put (i - 1).toNat n).at j = if j = i then n else T.at j) ∧ Like T (T.put (i - 1).toNat n) := by
  have hr := has_rng hh
  have hkr : (((i - 1).toNat : Nat) : Int) < T.room := by omega
  have hi : (((i - 1).toNat : Nat) : Int) + 1 = i := by omega
  have hat : ∀ j, (T.put (i - 1).toNat n).at j = if j = i then n else T.at j := fun j => by rw [at_put hg hkr (.inr hok), hi]
  have he' : ∀ j, ((T.put (i - 1).toNat n).at j).ents = (T.at j).ents := fun j => by
    rw [hat]; split
    · rename_i e; rw [e, he]
    · rfl
  refine ⟨put_good hg (.inr hok) _, hat, rfl, fun j => ?_, he', fun j => ?_, fun j => ?_, fun j => ?_⟩
  · rw [hat]; split
    · rename_i e; rw [e, hk]
    · rfl
  · rw [hat]; split
    · rename_i e; rw [e, htg]
    · rfl
  · have := links_put hg hkr (.inr hok) j
    rw [show T.nd (i - 1).toNat = T.at ((((i - 1).toNat : Nat) : Int) + 1) from rfl, hi] at this
    have hc : cntE n j = cntE (T.at i) j := by unfold cntE; rw [he]
    omega
  · unfold Tab.parent
    rw [tells_same he', show (T.put (i - 1).toNat n).room = T.room from rfl]
theorem chmod_like {T : Tab} (hg : T.good) (ht : T.tree) (c : Cred) (path : ByteArray) (mode : Int) : (T.chmod c path mode).2.good ∧ Like T (T.chmod c path mode).2 := by
  unfold Tab.chmod
  split
  · exact ⟨hg, .refl T⟩
  · unfold Tab.chm
    split
    · exact ⟨hg, .refl T⟩
    · rename_i h1
      have h1' := Decidable.of_not_not h1
      split
      · exact ⟨hg, .refl T⟩
      · rename_i h2
        have hh : T.has (T.resolve c path true).1.node = true := by simpa using h2
        split
        · exact ⟨hg, .refl T⟩
        · obtain ⟨a, -, b⟩ := like_put hg hh (newMode_ok hg hh (found_nolink hg ht h1') c mode) rfl rfl rfl
          exact ⟨a, b⟩
theorem chown_like {T : Tab} (hg : T.good) (c : Cred) (path : ByteArray) (uid gid : Int) (fo : Bool) : (T.chown c path uid gid fo).2.good ∧ Like T (T.chown c path uid gid fo).2 := by
  unfold Tab.chown
  split
  · exact ⟨hg, .refl T⟩
  · rename_i h0
    unfold Tab.cho
    split
    · exact ⟨hg, .refl T⟩
    · split
      · exact ⟨hg, .refl T⟩
      · rename_i h2
        have hh : T.has (T.resolve c path fo).1.node = true := by simpa using h2
        split
        · exact ⟨hg, .refl T⟩
        · split
          · exact ⟨hg, .refl T⟩
          · obtain ⟨a, -, b⟩ := like_put hg hh (newOwn_ok hg hh c (uid := uid) (gid := gid) (by omega) (by omega)) rfl rfl rfl
            exact ⟨a, b⟩
end Abs
end Go.Proofs.YtkopeigfjjbajaaGreat
