import Derived.Test.YtkopeigfjjbajaaZ3
set_option linter.unusedVariables false
namespace Go.Proofs.Ytkopeigfjjbajaa
namespace Abs
set_option maxRecDepth 10000
attribute [local irreducible] AOps AW ACalls thenQ inBlk noGoto
attribute [local irreducible] absOf endOf

/-! ### root, and who has the bits: the plain law -/
def rootC : Cred := ⟨0, 0, []⟩
theorem root_can (T : Tab) (i want : Int) : T.can rootC i want = T.has i := by
  unfold Tab.can Cred.can Cred.root rootC
  simp
/-- Two tables that differ in modes alone; in the second one each directory lets who asks search it. -/
structure Open (T U : Tab) (c : Cred) : Prop where
  kind : ∀ i, (U.at i).kind = (T.at i).kind
  ents : ∀ i, (U.at i).ents = (T.at i).ents
  target : ∀ i, (U.at i).target = (T.at i).target
  parent : ∀ i, U.parent i = T.parent i
  can : ∀ i, (T.at i).kind = 2 → U.can c i 1 = true
theorem Open.has {T U : Tab} {c : Cred} (h : Open T U c) (i : Int) : U.has i = T.has i := by
  have h1 := has_kind' (T := U) (d := i)
  have h2 := has_kind' (T := T) (d := i)
  rw [h.kind] at h1
  cases hu : U.has i <;> cases ht : T.has i <;> simp_all
theorem Open.find {T U : Tab} {c : Cred} (h : Open T U c) (i : Int) (name : ByteArray) : (U.at i).find name = (T.at i).find name := by
  unfold Node.find Node.place
  rw [h.ents]
theorem take_open {T U : Tab} {c : Cred} (h : Open T U c) (fo : Bool) (s : RSt) (name : ByteArray) (rest : List ByteArray) : U.take c fo s name rest = T.take rootC fo s name rest := by
  unfold Tab.take
  simp only [h.kind, h.find, h.target, h.parent]
  by_cases k1 : ¬ (T.at s.pos).kind = 2
  · rw [if_pos k1, if_pos k1]
  have hk := Decidable.of_not_not k1
  rw [if_neg k1, if_neg k1, if_neg (show ¬ U.can c s.pos 1 = false by rw [h.can _ hk]; decide), if_neg (show ¬ T.can rootC s.pos 1 = false by rw [root_can, has_kind'.2 (by rw [hk]; decide)]; decide)]
theorem walk_open {T U : Tab} {c : Cred} (h : Open T U c) (fo : Bool) : ∀ (f : Nat) (s : RSt), U.walk c fo f s = T.walk rootC fo f s
  | 0, s => rfl
  | f + 1, s => by
    cases hq : s.left with
    | nil => rw [walk_end hq, walk_end hq]
    | cons name rest =>
      rw [walk_step hq, walk_step hq, take_open h]
      cases T.take rootC fo s name rest with
      | inr r => rfl
      | inl s' => exact walk_open h fo f s'
theorem resolve_open {T U : Tab} {c : Cred} (h : Open T U c) (path : ByteArray) (fo : Bool) : U.resolve c path fo = T.resolve rootC path fo := by
  have hf : U.fitsE path = T.fitsE path := by unfold Tab.fitsE; rw [h.has]
  unfold Tab.resolve
  rw [hf, walk_open h]
theorem tells_same {T U : Tab} (he : ∀ i, (U.at i).ents = (T.at i).ents) (i : Int) : ∀ k : Nat, U.tells i k = T.tells i k
  | 0 => rfl
  | k + 1 => by
    have h : ∀ V : Tab, (if V.has ((k : Int) + 1) = true then V.tellsOf i k else []) = tellsIn i ((k : Int) + 1) (V.at ((k : Int) + 1)).ents := fun V => by
      split
      · rename_i hh; unfold Tab.tellsOf tellsIn; rw [at_has hh]
      · rename_i hh; rw [at_none (by simpa using hh)]; rfl
    simp only [Tab.tells, tells_same he i k, h, he]
end Abs
end Go.Proofs.Ytkopeigfjjbajaa
