import Derived.Test.YtkopeigfjjbajaaZG
set_option linter.unusedVariables false
namespace Go.Proofs.Ytkopeigfjjbajaa
namespace Abs
set_option maxRecDepth 10000
attribute [local irreducible] AOps AW ACalls thenQ inBlk noGoto

/-! ### AttrLast: the plain law, the last part: bits that let all search -/
theorem and_small {p q : Int} (hp : 0 ≤ p ∧ p ≤ 4095) (hq : 0 ≤ q ∧ q ≤ 4095) : bitsR .and .i64 p q = ((p.toNat &&& q.toNat : Nat) : Int) := by
  have h1 : ∀ r : Int, 0 ≤ r ∧ r ≤ 4095 → (BitVec.ofInt 64 r).toNat = r.toNat := fun r hr => by
    have h := toNat_ofInt64 r
    rw [Int.emod_eq_of_lt (by omega) (by omega)] at h
    omega
  show IntKind.i64.wrap ((BitVec.ofInt 64 p &&& BitVec.ofInt 64 q).toNat : Int) = _
  rw [BitVec.toNat_and, h1 p hp, h1 q hq]
  have hle : p.toNat &&& q.toNat ≤ p.toNat := Nat.and_le_left
  exact wrap_id ⟨by omega, by omega⟩
theorem bits73 {x y : Int} (hx : 0 ≤ x ∧ x ≤ 4095) (hy : 0 ≤ y ∧ y ≤ 4095) (h : bitsR .and .i64 (bitsR .and .i64 x y) 73 = 73) : y.toNat &&& 73 = 73 := by
  have hle : x.toNat &&& y.toNat ≤ x.toNat := Nat.and_le_left
  rw [and_small hx hy, and_small (by omega) (by decide), Int.toNat_natCast] at h
  have h2 : (x.toNat &&& y.toNat) &&& 73 = 73 := by
    have : (((x.toNat &&& y.toNat) &&& (73 : Int).toNat : Nat) : Int) = 73 := h
    have e : (73 : Int).toNat = 73 := rfl
    rw [e] at this
    omega
  apply Nat.eq_of_testBit_eq
  intro i
  have h3 := congrArg (fun n => Nat.testBit n i) h2
  simp only [Nat.testBit_and] at h3 ⊢
  cases h4 : Nat.testBit 73 i with
  | false => simp
  | true =>
    rw [h4] at h3
    simp at h3
    simp [h3.2]
theorem search_all : ∀ a : Fin 64, ∀ b : Fin 64, (64 * a.val + b.val) &&& 73 = 73 →
    ((((64 * a.val + b.val : Nat) : Int) / 64 % 8 % 2 = 1 ∧ ((64 * a.val + b.val : Nat) : Int) / 8 % 8 % 2 = 1 ∧ ((64 * a.val + b.val : Nat) : Int) % 8 % 2 = 1) ∧
     (dropB ((64 * a.val + b.val : Nat) : Int) 1024 / 64 % 8 % 2 = 1 ∧ dropB ((64 * a.val + b.val : Nat) : Int) 1024 / 8 % 8 % 2 = 1 ∧ dropB ((64 * a.val + b.val : Nat) : Int) 1024 % 8 % 2 = 1)) := by decide +kernel
theorem search73 {y : Int} (hy : 0 ≤ y ∧ y ≤ 4095) (h : y.toNat &&& 73 = 73) : ∀ m, m = y ∨ m = dropB y 1024 → ∀ k, k = 0 ∨ k = 1 ∨ k = 2 → clsBits m k % 2 = 1 := by
  have hs := search_all ⟨y.toNat / 64, by omega⟩ ⟨y.toNat % 64, by omega⟩
  simp only at hs
  rw [show 64 * (y.toNat / 64) + y.toNat % 64 = y.toNat by omega, show ((y.toNat : Nat) : Int) = y by omega] at hs
  obtain ⟨⟨s1, s2, s3⟩, ⟨t1, t2, t3⟩⟩ := hs h
  intro m hm k hk
  unfold clsBits
  rcases hm with rfl | rfl
  · rcases hk with rfl | rfl | rfl
    · exact s1
    · exact s2
    · exact s3
  · rcases hk with rfl | rfl | rfl
    · exact t1
    · exact t2
    · exact t3
theorem can73 {c d : Cred} {uid gid kind g y : Int} (hy : 0 ≤ y ∧ y ≤ 4095) (h : y.toNat &&& 73 = 73) : c.can uid gid (d.modeFor kind g y) 1 = true := by
  unfold Cred.can
  have hm : d.modeFor kind g y = y ∨ d.modeFor kind g y = dropB y 1024 := by
    unfold Cred.modeFor
    rw [show y % 4096 = y by omega]
    split
    · exact .inl rfl
    · exact .inr rfl
  have hk := search73 hy h _ hm _ (cls_range c uid gid)
  rw [show (1 : Int) % 8 = 1 from rfl, and1, hk]
  simp
theorem attrLast_three {T : Tab} (hg : T.good) (ht : T.tree) {c : Cred} {path : ByteArray} {x y : Int} (hx : 0 ≤ x ∧ x ≤ 4095) (hy : 0 ≤ y ∧ y ≤ 4095)
    (hA : (T.chmod c path x).1 = 0) (hB : ((T.chmod c path x).2.chmod c path y).1 = 0) (hb : bitsR .and .i64 (bitsR .and .i64 x y) 73 = 73) : (((T.chmod c path x).2.chmod c path y).2.look c path true).2 = 0 := by
  have hr : ∀ (V : Tab) (m : Int), 0 ≤ m ∧ m ≤ 4095 → V.chmod c path m = V.chm c path m := fun V m hm => by unfold Tab.chmod; rw [if_neg (by omega)]
  obtain ⟨hg1, l1⟩ := chmod_like hg ht c path x
  obtain ⟨hg2, l2⟩ := chmod_like hg1 (l1.tree ht) c path y
  have l3 := l1.trans l2
  have hby := bits73 hx hy hb
  rw [hr T x hx] at hA hB hg1 l1 hg2 l2 l3 ⊢
  rw [hr _ y hy] at hB hg2 l2 l3 ⊢
  rcases chm_cases T c path x with ⟨h1, -, -⟩ | ⟨h1, h2, h3, h4⟩
  · exact absurd hA h1
  obtain ⟨-, a2, -⟩ := like_put hg h2 (newMode_ok hg h2 (found_nolink hg ht h1) c x) rfl rfl rfl
  rw [h4 x] at hB hg1 l1 hg2 l2 l3 ⊢
  dsimp only at hB hg1 l1 hg2 l2 l3 ⊢
  generalize T.put ((T.resolve c path true).1.node - 1).toNat (newMode c (T.at (T.resolve c path true).1.node) x) = P at a2 hB hg1 l1 hg2 l2 l3 ⊢
  rcases chm_cases P c path y with ⟨p1, -, -⟩ | ⟨p1, p2, p3, p4⟩
  · exact absurd hB p1
  have e : P.resolve c path true = T.resolve c path true := resolve_two l1 (by rw [h1]; decide) (by rw [p1]; decide)
  have hnl : ¬ (P.at (P.resolve c path true).1.node).kind = 3 := by rw [e, l1.kind]; exact found_nolink hg ht h1
  obtain ⟨-, d2, -⟩ := like_put hg1 p2 (newMode_ok hg1 p2 hnl c y) rfl rfl rfl
  rw [p4 y] at l3 ⊢
  dsimp only at l3 ⊢
  rw [e] at d2 l3 ⊢
  generalize P.put ((T.resolve c path true).1.node - 1).toNat (newMode c (P.at (T.resolve c path true).1.node) y) = Q at d2 l3 ⊢
  have hq : Q.resolve c path true = T.resolve c path true := by
    refine resolve_mono l3 (fun i hk hcn => ?_) (by rw [h1]; decide)
    have hQi : Q.has i = true := by rw [l3.has]; exact has_kind'.2 (by rw [hk]; decide)
    by_cases ei : i = (T.resolve c path true).1.node
    · unfold Tab.can
      rw [hQi, d2, if_pos ei, Bool.true_and]
      exact can73 hy hby
    · have hTi : T.has i = true := has_kind'.2 (by rw [hk]; decide)
      unfold Tab.can at hcn ⊢
      rw [hQi, d2, if_neg ei, a2, if_neg ei, Bool.true_and]
      rw [hTi, Bool.true_and] at hcn
      exact hcn
  unfold Tab.look
  rw [hq, if_pos h1, l3.has, h2, if_pos rfl]
end Abs
end Go.Proofs.Ytkopeigfjjbajaa
