import Derived.Test.YtpifnlodilcgkaaGreatXL
import Derived.Test.YtpifnlodilcgkaaGreatXD
import Derived.Test.YtpifnlodilcgkaaGreatZ3
import Derived.Test.YtpifnlodilcgkaaGreatM7
set_option linter.unusedVariables false
namespace Go.Proofs.YtpifnlodilcgkaaGreat
namespace Abs
set_option linter.unusedSimpArgs false
set_option maxRecDepth 10000
set_option maxHeartbeats 2000000
attribute [local irreducible] AOps AW AP ACalls thenQ inBlk noGoto

/-! ### the document's chapter 12 -/
theorem l_is {T : Tab} {L : List Node} (ht : Tells T L) (i : Int) : ris L i = T.has i := by
  have hg := ht.get i
  have hk := at_kind (T := T) i
  unfold rget at hg
  unfold ris
  by_cases h : 1 ≤ i ∧ i ≤ L.length
  · rw [if_pos h] at hg
    rw [hg, decide_eq_true h.1, decide_eq_true h.2, Bool.true_and, Bool.true_and]
    cases hh : T.has i with
    | false => rw [decide_eq_true (hk.2 hh)]; rfl
    | true => rw [decide_eq_false (fun e => by rw [hk.1 e] at hh; cases hh)]; rfl
  · rw [if_neg h] at hg
    have hh : T.has i = false := hk.1 (by rw [← hg]; rfl)
    rw [hh]
    by_cases h1 : 1 ≤ i
    · rw [decide_eq_false (show ¬ i ≤ (L.length : Int) from fun h2 => h ⟨h1, h2⟩), Bool.and_false, Bool.false_and]
    · rw [decide_eq_false h1, Bool.false_and, Bool.false_and]
end Abs
end Go.Proofs.YtpifnlodilcgkaaGreat
