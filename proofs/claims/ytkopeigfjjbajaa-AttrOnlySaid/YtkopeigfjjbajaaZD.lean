import Derived.Test.YtkopeigfjjbajaaZC
set_option linter.unusedVariables false
namespace Go.Proofs.Ytkopeigfjjbajaa
namespace Abs
set_option maxRecDepth 10000
attribute [local irreducible] AOps AW ACalls thenQ inBlk noGoto

/-! ### one node is changed, and nothing but what is asked for: the plain law -/
theorem sameTo_self' (T : Tab) : ∀ k : Nat, T.sameTo T k = true
  | 0 => rfl
  | k + 1 => by rw [Tab.sameTo, sameTo_self' T k, same_refl]; rfl
theorem same_self' (T : Tab) : T.same T = true := sameTo_self' T 24
def noMode (n : Node) : Node := { n with mode := 0 }
def noOwn (n a : Node) : Node := { n with mode := 0, uid := a.uid, gid := a.gid }
structure Only1 (T : Tab) (S : Stat × Int) (A : Int × Tab) : Prop where
  err : ¬ A.1 = 0 → A.2 = T
  none : ¬ S.2 = 0 → ¬ A.1 = 0
  others : ∀ i, ¬ i = S.1.node → A.2.at i = T.at i
  one : ∀ i, noMode (A.2.at i) = noMode (T.at i)
theorem only1_err {T : Tab} {S : Stat × Int} {e : Int} (h : ¬ e = 0) : Only1 T S (e, T) := ⟨fun _ => rfl, fun _ => h, fun _ _ => rfl, fun _ => rfl⟩
theorem chmod_only {T : Tab} (hg : T.good) (ht : T.tree) (c : Cred) (path : ByteArray) (mode : Int) : Only1 T (T.look c path true) (T.chmod c path mode) := by
  unfold Tab.chmod
  split
  · exact only1_err (by decide)
  · unfold Tab.chm
    split
    · rename_i h; exact only1_err h
    · rename_i h1
      have h1' := Decidable.of_not_not h1
      split
      · exact only1_err (by decide)
      · rename_i h2
        have hh : T.has (T.resolve c path true).1.node = true := by simpa using h2
        split
        · exact only1_err (by decide)
        · obtain ⟨-, a2, -⟩ := like_put hg hh (newMode_ok hg hh (found_nolink hg ht h1') c mode) rfl rfl rfl
          have hl : T.look c path true = (T.stat (T.resolve c path true).1.node, 0) := by unfold Tab.look; rw [if_pos h1', hh, if_pos rfl]
          have hn : (T.stat (T.resolve c path true).1.node).node = (T.resolve c path true).1.node := by unfold Tab.stat; rw [if_pos hh]
          rw [hl]
          refine ⟨fun q => absurd rfl q, fun q => absurd rfl q, fun i hi => ?_, fun i => ?_⟩
          · dsimp only at hi ⊢
            rw [hn] at hi
            rw [a2, if_neg hi]
          · dsimp only
            rw [a2]
            split
            · rename_i e; rw [e]; rfl
            · rfl
structure Only2 (T : Tab) (S : Stat × Int) (uid gid : Int) (B : Int × Tab) : Prop where
  err : ¬ B.1 = 0 → B.2 = T
  none : ¬ S.2 = 0 → ¬ B.1 = 0
  others : ∀ i, ¬ i = S.1.node → B.2.at i = T.at i
  one : ∀ i, noOwn (B.2.at i) (T.at i) = noMode (T.at i)
  own : B.1 = 0 → ∀ i, i = S.1.node → (B.2.at i).uid = (if 0 ≤ uid then uid else (T.at i).uid) ∧ (B.2.at i).gid = (if 0 ≤ gid then gid else (T.at i).gid)
theorem only2_err {T : Tab} {S : Stat × Int} {uid gid e : Int} (h : ¬ e = 0) : Only2 T S uid gid (e, T) := ⟨fun _ => rfl, fun _ => h, fun _ _ => rfl, fun _ => rfl, fun q => absurd q h⟩
theorem chown_only {T : Tab} (hg : T.good) (c : Cred) (path : ByteArray) (uid gid : Int) : Only2 T (T.look c path true) uid gid (T.chown c path uid gid true) := by
  unfold Tab.chown
  split
  · exact only2_err (by decide)
  · rename_i h0
    unfold Tab.cho
    split
    · rename_i h; exact only2_err h
    · rename_i h1
      have h1' := Decidable.of_not_not h1
      split
      · exact only2_err (by decide)
      · rename_i h2
        have hh : T.has (T.resolve c path true).1.node = true := by simpa using h2
        have hl : T.look c path true = (T.stat (T.resolve c path true).1.node, 0) := by unfold Tab.look; rw [if_pos h1', hh, if_pos rfl]
        have hn : (T.stat (T.resolve c path true).1.node).node = (T.resolve c path true).1.node := by unfold Tab.stat; rw [if_pos hh]
        split
        · exact only2_err (by decide)
        · split
          · rename_i h4
            rw [hl]
            refine ⟨fun q => absurd rfl q, fun q => absurd rfl q, fun i hi => rfl, fun i => rfl, fun _ i hi => ?_⟩
            rw [if_neg (by omega), if_neg (by omega)]
            exact ⟨rfl, rfl⟩
          · obtain ⟨-, a2, -⟩ := like_put hg hh (newOwn_ok hg hh c (uid := uid) (gid := gid) (by omega) (by omega)) rfl rfl rfl
            rw [hl]
            refine ⟨fun q => absurd rfl q, fun q => absurd rfl q, fun i hi => ?_, fun i => ?_, fun _ i hi => ?_⟩
            · dsimp only at hi ⊢
              rw [hn] at hi
              rw [a2, if_neg hi]
            · dsimp only
              rw [a2]
              split
              · rename_i e; rw [e]; rfl
              · rfl
            · dsimp only at hi ⊢
              rw [hn] at hi
              rw [a2, if_pos hi, ← hi]
              exact ⟨rfl, rfl⟩
end Abs
end Go.Proofs.Ytkopeigfjjbajaa
