import Derived.Test.YtkopeigfjjbajaaGreatXL
import Derived.Test.YtkopeigfjjbajaaGreatXD
import Derived.Test.YtkopeigfjjbajaaGreatZ3
import Derived.Test.YtkopeigfjjbajaaGreatM7
set_option linter.unusedVariables false
namespace Go.Proofs.YtkopeigfjjbajaaGreat
namespace Abs
set_option linter.unusedSimpArgs false
set_option maxRecDepth 10000
set_option maxHeartbeats 2000000
attribute [local irreducible] AOps AW AP ACalls thenQ inBlk noGoto

/-! ### the document's chapter 12 -/
theorem look_kind {T : Tab} {c : Cred} {path : ByteArray} {fo : Bool} (h : (T.look c path fo).2 = 0) : ∃ i, T.has i = true ∧ T.look c path fo = (T.stat i, 0) ∧ (T.stat i).node = i ∧ (T.stat i).kind = (T.at i).kind ∧ (T.stat i).links = T.links i ∧ (T.resolve c path fo).2 = 0 ∧ (T.resolve c path fo).1.node = i := by
  unfold Tab.look at h ⊢
  by_cases h1 : (T.resolve c path fo).2 = 0
  · rw [if_pos h1] at h ⊢
    cases h2 : T.has (T.resolve c path fo).1.node with
    | false => rw [h2, if_neg (by decide)] at h; exact absurd h (by decide)
    | true =>
      rw [if_pos rfl]
      refine ⟨_, h2, rfl, ?_, ?_, ?_, h1, rfl⟩ <;> (unfold Tab.stat; rw [if_pos h2])
  · rw [if_neg h1] at h
    exact absurd h h1
theorem at_rising {T : Tab} (hg : T.good) {i : Int} (hk : (T.at i).kind = 2) : rising (T.at i).ents = true := by
  rcases at_zero_ok hg i with z | z
  · rw [z] at hk; cases hk
  · exact ((dirOk_iff hk).1 z).2.2.2
end Abs
end Go.Proofs.YtkopeigfjjbajaaGreat
