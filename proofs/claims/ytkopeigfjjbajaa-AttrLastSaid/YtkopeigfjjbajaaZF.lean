import Derived.Test.YtkopeigfjjbajaaZE
set_option linter.unusedVariables false
namespace Go.Proofs.Ytkopeigfjjbajaa
namespace Abs
set_option maxRecDepth 10000
attribute [local irreducible] AOps AW ACalls thenQ inBlk noGoto
attribute [local irreducible] absOf

/-! ### changes one behind the other: the plain law (for AttrLast) -/
theorem walk_mono {T U : Tab} (hl : Like T U) {c : Cred} (hcan : ∀ i, (T.at i).kind = 2 → T.can c i 1 = true → U.can c i 1 = true) (fo : Bool) : ∀ (f : Nat) (s : RSt), (T.walk c fo f s).2 ≠ 13 → U.walk c fo f s = T.walk c fo f s
  | 0, s, _ => rfl
  | f + 1, s, h => by
    cases hq : s.left with
    | nil => rw [walk_end hq, walk_end hq]
    | cons name rest =>
      have hfind : ∀ i nm, (U.at i).find nm = (T.at i).find nm := fun i nm => by unfold Node.find Node.place; rw [hl.ents]
      have ht : U.take c fo s name rest = T.take c fo s name rest ∨ T.take c fo s name rest = .inr (Found.zero, 13) := by
        unfold Tab.take
        simp only [hl.kind, hfind, hl.target, hl.parent]
        by_cases k1 : ¬ (T.at s.pos).kind = 2
        · rw [if_pos k1, if_pos k1]; exact .inl rfl
        have hk := Decidable.of_not_not k1
        rw [if_neg k1, if_neg k1]
        by_cases k2 : T.can c s.pos 1 = false
        · rw [if_pos k2]; exact .inr rfl
        · have k2' : T.can c s.pos 1 = true := by simpa using k2
          rw [if_neg k2, if_neg (show ¬ U.can c s.pos 1 = false by rw [hcan _ hk k2']; decide)]
          exact .inl rfl
      rw [walk_step hq] at h ⊢
      rw [walk_step hq]
      rcases ht with e | e
      · rw [e]
        cases e2 : T.take c fo s name rest with
        | inr r => rfl
        | inl s' =>
          rw [e2] at h
          exact walk_mono hl hcan fo f s' h
      · rw [e] at h; exact absurd rfl h
theorem resolve_mono {T U : Tab} (hl : Like T U) {c : Cred} (hcan : ∀ i, (T.at i).kind = 2 → T.can c i 1 = true → U.can c i 1 = true) {path : ByteArray} {fo : Bool} (h : (T.resolve c path fo).2 ≠ 13) : U.resolve c path fo = T.resolve c path fo := by
  have hf : U.fitsE path = T.fitsE path := by unfold Tab.fitsE; rw [hl.has]
  unfold Tab.resolve at h ⊢
  rw [hf]
  split
  · rename_i h0
    rw [if_pos h0] at h
    exact walk_mono hl hcan fo 2000 _ h
  · rfl
theorem same_of_at {T U : Tab} (h : ∀ i, U.at i = T.at i) : U.same T = true := by
  have : ∀ k : Nat, U.sameTo T k = true := fun k => by
    induction k with
    | zero => rfl
    | succ k ih => rw [Tab.sameTo, ih, show U.nd k = T.nd k from h _, same_refl]; rfl
  exact this 24
theorem resolve_two {T U : Tab} (hl : Like T U) {c : Cred} {path : ByteArray} {fo : Bool} (h1 : (T.resolve c path fo).2 ≠ 13) (h2 : (U.resolve c path fo).2 ≠ 13) : U.resolve c path fo = T.resolve c path fo := by
  have ho := resolve_open hl.open path fo
  rcases (resolve_root T c path fo).1 with e1 | e1
  · rcases (resolve_root U c path fo).1 with e2 | e2
    · rw [e1, e2, ho]
    · rw [e2] at h2; exact absurd rfl h2
  · rw [e1] at h1; exact absurd rfl h1
end Abs
end Go.Proofs.Ytkopeigfjjbajaa
