import Derived.Test.YtpmnfbgnlanpoaaGreatZ3
set_option linter.unusedVariables false
namespace Go.Proofs.YtpmnfbgnlanpoaaGreat
namespace Abs
set_option maxRecDepth 10000
attribute [local irreducible] AOps AW ACalls thenQ inBlk noGoto
attribute [local irreducible] absOf endOf

/-! ### root, and who has the bits: the plain law -/
/-- Two tables that differ in modes alone; in the second one each directory lets who asks search it. -/
structure Open (T U : Tab) (c : Cred) : Prop where
  kind : ∀ i, (U.at i).kind = (T.at i).kind
  ents : ∀ i, (U.at i).ents = (T.at i).ents
  target : ∀ i, (U.at i).target = (T.at i).target
  parent : ∀ i, U.parent i = T.parent i
  can : ∀ i, (T.at i).kind = 2 → U.can c i 1 = true
theorem Open.has {T U : Tab} {c : Cred} (h : Open T U c) (i : Int) : U.has i = T.has i := by
  have h1 := has_kind' (T := U) (d := i)
  have h2 := has_kind' (T := T) (d := i)
  rw [h.kind] at h1
  cases hu : U.has i <;> cases ht : T.has i <;> simp_all
theorem Open.find {T U : Tab} {c : Cred} (h : Open T U c) (i : Int) (name : ByteArray) : (U.at i).find name = (T.at i).find name := by
  unfold Node.find Node.place
  rw [h.ents]
end Abs
end Go.Proofs.YtpmnfbgnlanpoaaGreat
