import Derived.Test.YtpifnlodilcgkaaGI
import Derived.Test.YtpifnlodilcgkaaZ1
import Derived.Test.YtpifnlodilcgkaaZ3
set_option linter.unusedVariables false
namespace Go.Proofs.Ytpifnlodilcgkaa
namespace Abs
set_option maxRecDepth 10000
attribute [local irreducible] AOps AW ACalls thenQ inBlk noGoto

/-! ### a path in a tree with an entry more, and one less: plain law -/
theorem tree_up1 {T : Tab} (ht : T.tree) {i : Int} (hk : (T.at i).kind = 2) : ∃ k, T.up k i = 1 := by
  by_cases h : i = 1
  · exact ⟨0, h⟩
  · obtain ⟨k, _, h1⟩ := rooted_up 24 i (ht.dirs i hk h).2
    exact ⟨k, h1⟩
structure KeepW (T U : Tab) (c : Cred) (x : Int) (nm : ByteArray) (a y : Int) (my : ByteArray) : Prop where
  kind : ∀ i, T.has i = true → (U.at i).kind = (T.at i).kind
  tgt : ∀ i, T.has i = true → (U.at i).target = (T.at i).target
  can : ∀ i, T.has i = true → U.can c i 1 = T.can c i 1
  find : ∀ i n, (T.at i).kind = 2 → (U.at i).find n = if i = x ∧ n = nm then a else if i = y ∧ n = my then 0 else (T.at i).find n
  par : ∀ i, (T.at i).kind = 2 → i ≠ a → U.parent i = T.parent i
  xn : (T.at x).find nm = 0
  uni : (T.at a).kind = 2 → ∀ i n, (T.at i).kind = 2 → (T.at i).find n = a → i = y ∧ n = my
  a0 : a ≠ 0
theorem walk_keep {T U : Tab} (hg : T.good) (ht : T.tree) {c : Cred} {x a y : Int} {nm my : ByteArray} (h : KeepW T U c x nm a y my) : ∀ (f : Nat) (s : RSt) (r : Found), T.has s.pos = true → ((T.at s.pos).kind = 2 → ∀ n, T.up n s.pos ≠ a) → T.walk c false f s = (r, 0) → r.name ≠ ⟨#[]⟩ →
    U.walk c false f s = (⟨r.dir, r.name, (U.at r.dir).find r.name⟩, 0) ∨ ((U.walk c false f s).2 ≠ 0 ∧ (T.at y).kind = 2)
  | 0, s, r, _, _, hw, hr => by
    have : r = Found.zero := (congrArg Prod.fst hw).symm
    rw [this] at hr; exact absurd rfl hr
  | f + 1, s, r, hh, hnb, hw, hr => by
    cases hq : s.left with
    | nil =>
      rw [walk_end hq] at hw
      have e : (⟨s.pos, ⟨#[]⟩, s.pos⟩ : Found) = r := congrArg Prod.fst hw
      exact absurd (by rw [← e]) hr
    | cons name rest =>
      rw [walk_step hq] at hw
      rw [walk_step hq]
      have bad : ∀ (e : Int), e ≠ 0 → ¬ ((Found.zero, e) : Found × Int) = (r, 0) := fun e he z => he (congrArg Prod.snd z)
      have key : (T.take c false s name rest = .inr (r, 0) → U.take c false s name rest = .inr (⟨r.dir, r.name, (U.at r.dir).find r.name⟩, 0)) ∧
          (∀ s', T.take c false s name rest = .inl s' → (T.walk c false f s' = (r, 0)) → (U.take c false s name rest = .inl s' ∧ T.has s'.pos = true ∧ ((T.at s'.pos).kind = 2 → ∀ n, T.up n s'.pos ≠ a)) ∨ ((∃ z : Int, z ≠ 0 ∧ U.take c false s name rest = .inr (Found.zero, z)) ∧ (T.at y).kind = 2)) := by
        unfold Tab.take
        by_cases k1 : ¬ (T.at s.pos).kind = 2
        · rw [if_pos k1]; exact ⟨fun q => absurd (Sum.inr.inj q) (bad _ (by decide)), fun s' q => by cases q⟩
        have k1' : (T.at s.pos).kind = 2 := Decidable.of_not_not k1
        have u1 : ¬ ¬ (U.at s.pos).kind = 2 := fun q => q (by rw [h.kind _ hh]; exact k1')
        rw [if_neg k1, if_neg u1, h.can _ hh]
        have hnb' := hnb k1'
        by_cases k2 : T.can c s.pos 1 = false
        · rw [if_pos k2]; exact ⟨fun q => absurd (Sum.inr.inj q) (bad _ (by decide)), fun s' q => by cases q⟩
        rw [if_neg k2, if_neg k2]
        by_cases k3 : name = dotS
        · rw [if_pos k3, if_pos k3]; exact ⟨fun q => (by cases q), fun s' q _ => by cases q; exact .inl ⟨rfl, hh, hnb⟩⟩
        rw [if_neg k3, if_neg k3]
        by_cases k4 : name = dotdotS
        · rw [if_pos k4, if_pos k4, h.par _ k1' (hnb' 0)]
          refine ⟨fun q => (by cases q), fun s' q _ => ?_⟩
          cases q
          refine .inl ⟨rfl, ?_, ?_⟩
          · show T.has (if T.parent s.pos = 0 then s.pos else T.parent s.pos) = true
            split
            · exact hh
            · rename_i z; exact ent_has (parent_ent z)
          · show (T.at (if T.parent s.pos = 0 then s.pos else T.parent s.pos)).kind = 2 → ∀ n, T.up n (if T.parent s.pos = 0 then s.pos else T.parent s.pos) ≠ a
            split
            · exact hnb
            · exact fun _ n => hnb' (n + 1)
        rw [if_neg k4, if_neg k4]
        by_cases k5 : 12 < (name.size : Int)
        · rw [if_pos k5]; exact ⟨fun q => absurd (Sum.inr.inj q) (bad _ (by decide)), fun s' q => by cases q⟩
        rw [if_neg k5, if_neg k5]
        by_cases k6 : (T.at s.pos).find name = 0 ∧ 0 < rest.length
        · rw [if_pos k6]; exact ⟨fun q => absurd (Sum.inr.inj q) (bad _ (by decide)), fun s' q => by cases q⟩
        rw [if_neg k6]
        by_cases k9 : rest.length = 0
        · have n0 : ¬ 0 < rest.length := by omega
          rw [if_neg (fun q => n0 (q.2.resolve_left (by decide))), if_pos k9, if_neg (fun q => n0 q.2), if_neg (fun q => n0 (q.2.resolve_left (by decide))), if_pos k9]
          refine ⟨fun q => ?_, fun s' q => by cases q⟩
          have e := congrArg Prod.fst (Sum.inr.inj q)
          have e : (⟨s.pos, name, (T.at s.pos).find name⟩ : Found) = r := e
          rw [← e]
        have hpos : 0 < rest.length := by omega
        have hf0 : (T.at s.pos).find name ≠ 0 := fun q => k6 ⟨q, hpos⟩
        have hx : ¬ (s.pos = x ∧ name = nm) := fun q => hf0 (by rw [q.1, q.2]; exact h.xn)
        have hU := h.find s.pos name k1'
        rw [if_neg hx] at hU
        by_cases hy : s.pos = y ∧ name = my
        · rw [if_pos hy] at hU
          have hyk : (T.at y).kind = 2 := by rw [← hy.1]; exact k1'
          rw [if_pos (⟨hU, hpos⟩ : (U.at s.pos).find name = 0 ∧ 0 < rest.length)]
          refine ⟨fun q => ?_, fun s' _ _ => .inr ⟨⟨2, by decide, rfl⟩, hyk⟩⟩
          by_cases k7 : (T.at ((T.at s.pos).find name)).kind = 3 ∧ (false = true ∨ 0 < rest.length)
          · rw [if_pos k7] at q
            split at q
            · exact absurd (Sum.inr.inj q) (bad _ (by decide))
            · cases q
          · rw [if_neg k7, if_neg k9] at q; cases q
        rw [if_neg hy] at hU
        rw [hU, if_neg k6]
        have he := find_ent hf0
        have hid := ht.ents _ _ he
        have hkid := h.kind _ hid
        rw [hkid]
        by_cases k7 : (T.at ((T.at s.pos).find name)).kind = 3 ∧ (false = true ∨ 0 < rest.length)
        · rw [if_pos k7, if_pos k7]
          by_cases k8 : s.links = 8
          · rw [if_pos k8]; exact ⟨fun q => absurd (Sum.inr.inj q) (bad _ (by decide)), fun s' q => by cases q⟩
          · rw [if_neg k8, if_neg k8, h.tgt _ hid]
            refine ⟨fun q => (by cases q), fun s' q _ => ?_⟩
            cases q
            refine .inl ⟨rfl, ?_, ?_⟩
            · show T.has (if absOf _ = true then 1 else s.pos) = true
              split
              · exact has_kind'.2 (by rw [ht.root]; decide)
              · exact hh
            · show (T.at (if absOf _ = true then 1 else s.pos)).kind = 2 → ∀ n, T.up n (if absOf _ = true then 1 else s.pos) ≠ a
              split
              · intro _ n
                cases n with
                | zero =>
                  intro q
                  have q : (1 : Int) = a := q
                  have := h.uni (by rw [← q]; exact ht.root)
                  obtain ⟨k, hk⟩ := tree_up1 ht k1'
                  exact hnb' k (by rw [hk]; exact q)
                | succ n =>
                  rw [Tab.up, parent1 hg ht, up0 hg ht]
                  exact h.a0.symm
              · exact hnb
        rw [if_neg k7, if_neg k7, if_neg k9]
        refine ⟨fun q => (by cases q), fun s' q _ => ?_⟩
        cases q
        refine .inl ⟨rfl, hid, fun hk2 n => ?_⟩
        have h1 : (T.at s.pos).find name ≠ 1 := fun e => by
          have := (links_pos hg.wf).2 ⟨_, he⟩
          rw [e, ht.top] at this
          exact absurd this (by decide)
        have hp := one_parent hg.wf (ht.dirs _ hk2 h1).1 he
        cases n with
        | zero =>
          intro e
          have e : (T.at s.pos).find name = a := e
          exact hy (h.uni (by rw [← e]; exact hk2) _ _ k1' e)
        | succ n =>
          show T.up n (T.parent ((T.at s.pos).find name)) ≠ a
          rw [hp]; exact hnb' n
      cases hk : T.take c false s name rest with
      | inr r' =>
        rw [hk] at hw
        have hw : r' = (r, 0) := hw
        rw [hw] at hk
        rw [key.1 hk]; exact .inl rfl
      | inl s' =>
        rw [hk] at hw
        rcases key.2 s' hk hw with ⟨k1, k2, k3⟩ | ⟨⟨z, hz, k1⟩, k2⟩
        · rw [k1]; exact walk_keep hg ht h f s' r k2 k3 hw hr
        · rw [k1]; exact .inr ⟨hz, k2⟩
theorem resolve_keep {T U : Tab} (hg : T.good) (ht : T.tree) {c : Cred} {x a y : Int} {nm my : ByteArray} (h : KeepW T U c x nm a y my) (ha1 : a ≠ 1) {path : ByteArray} {r : Found} (hw : T.resolve c path false = (r, 0)) (hr : r.name ≠ ⟨#[]⟩) :
    U.resolve c path false = (⟨r.dir, r.name, (U.at r.dir).find r.name⟩, 0) ∨ ((U.resolve c path false).2 ≠ 0 ∧ (T.at y).kind = 2) := by
  have h1 : T.has 1 = true := has_kind'.2 (by rw [ht.root]; decide)
  have hf : U.fitsE path = T.fitsE path := by
    unfold Tab.fitsE
    rw [h1, has_kind'.2 (show (U.at 1).kind ≠ 0 by rw [h.kind 1 h1, ht.root]; decide)]
  unfold Tab.resolve at hw ⊢
  rw [hf]
  split at hw
  · rename_i q
    rw [if_pos q]
    refine walk_keep hg ht h 2000 _ r h1 (fun _ n => ?_) hw hr
    cases n with
    | zero => exact ha1.symm
    | succ n =>
      show T.up n (T.parent 1) ≠ a
      rw [parent1 hg ht, up0 hg ht]; exact h.a0.symm
  · rename_i q
    exact absurd (congrArg Prod.snd hw) q
end Abs
end Go.Proofs.Ytpifnlodilcgkaa
