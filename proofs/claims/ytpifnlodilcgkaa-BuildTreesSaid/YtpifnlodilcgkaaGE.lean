import Derived.Test.YtpifnlodilcgkaaGB
import Derived.Test.YtpifnlodilcgkaaM1
import Derived.Test.YtpifnlodilcgkaaZ1
set_option linter.unusedVariables false
namespace Go.Proofs.Ytpifnlodilcgkaa
namespace Abs
theorem add_has {T : Tab} (hg : T.good) {k : Nat} (hf : T.free = some k) {n : Node} (hok : nodeOk n = true) : (T.put k n).has ((k : Int) + 1) = true ∧ ∀ i, T.has i = true → (T.put k n).has i = true ∧ i ≠ (k : Int) + 1 ∧ (T.put k n).at i = T.at i := by
  obtain ⟨h1, h2⟩ := free_spec hf
  have hk : k < 24 := by have := hg.wf.2.1; omega
  have ha := at_put hg h1 (.inr hok)
  refine ⟨has_kind'.2 ?_, fun i hi => ?_⟩
  · rw [ha, if_pos rfl]; exact ok_kind hok
  · have hne : i ≠ (k : Int) + 1 := fun e => by rw [e, h2] at hi; cases hi
    have e : (T.put k n).at i = T.at i := by rw [ha, if_neg hne]
    exact ⟨has_kind'.2 (by rw [e]; exact has_kind'.1 hi), hne, e⟩
end Abs
end Go.Proofs.Ytpifnlodilcgkaa

set_option linter.unusedVariables false
namespace Go.Proofs.Ytpifnlodilcgkaa
namespace Abs
set_option linter.unusedSimpArgs false
set_option maxRecDepth 10000
set_option maxHeartbeats 2000000
attribute [local irreducible] AOps AW AP ACalls thenQ inBlk noGoto

theorem Wk.three {a a' b c : AVal} (h : Wk a a') : Wk (.tup [a, b, c]) (.tup [a', b, c]) := .tup rfl (fun j h1 h2 => match j with | 0 => h | 1 => .refl _ | 2 => .refl _)
end Abs
end Go.Proofs.Ytpifnlodilcgkaa
