import Derived.Test.YtkopeigfjjbajaaGreatZ3
set_option linter.unusedVariables false
namespace Go.Proofs.YtkopeigfjjbajaaGreat
namespace Abs
set_option maxRecDepth 10000
attribute [local irreducible] AOps AW ACalls thenQ inBlk noGoto
attribute [local irreducible] absOf endOf

/-! ### root, and who has the bits: the plain law -/
def rootC : Cred := ⟨0, 0, []⟩
theorem root_can (T : Tab) (i want : Int) : T.can rootC i want = T.has i := by
  unfold Tab.can Cred.can Cred.root rootC
  simp
/-- Two tables that differ in modes alone; in the second one each directory lets who asks search it. -/
structure Open (T U : Tab) (c : Cred) : Prop where
  kind : ∀ i, (U.at i).kind = (T.at i).kind
  ents : ∀ i, (U.at i).ents = (T.at i).ents
  target : ∀ i, (U.at i).target = (T.at i).target
  parent : ∀ i, U.parent i = T.parent i
  can : ∀ i, (T.at i).kind = 2 → U.can c i 1 = true
theorem Open.has {T U : Tab} {c : Cred} (h : Open T U c) (i : Int) : U.has i = T.has i := by
  have h1 := has_kind' (T := U) (d := i)
  have h2 := has_kind' (T := T) (d := i)
  rw [h.kind] at h1
  cases hu : U.has i <;> cases ht : T.has i <;> simp_all
theorem Open.find {T U : Tab} {c : Cred} (h : Open T U c) (i : Int) (name : ByteArray) : (U.at i).find name = (T.at i).find name := by
  unfold Node.find Node.place
  rw [h.ents]
theorem tells_same {T U : Tab} (he : ∀ i, (U.at i).ents = (T.at i).ents) (i : Int) : ∀ k : Nat, U.tells i k = T.tells i k
  | 0 => rfl
  | k + 1 => by
    have h : ∀ V : Tab, (if V.has ((k : Int) + 1) = true then V.tellsOf i k else []) = tellsIn i ((k : Int) + 1) (V.at ((k : Int) + 1)).ents := fun V => by
      split
      · rename_i hh; unfold Tab.tellsOf tellsIn; rw [at_has hh]
      · rename_i hh; rw [at_none (by simpa using hh)]; rfl
    simp only [Tab.tells, tells_same he i k, h, he]
end Abs
end Go.Proofs.YtkopeigfjjbajaaGreat
