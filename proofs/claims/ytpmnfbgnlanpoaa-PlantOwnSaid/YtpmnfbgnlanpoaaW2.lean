import Derived.Test.YtpmnfbgnlanpoaaGU
import Derived.Test.YtpmnfbgnlanpoaaW1
set_option linter.unusedVariables false
namespace Go.Proofs.Ytpmnfbgnlanpoaa
namespace Abs
set_option maxRecDepth 10000
attribute [local irreducible] AOps AW ACalls thenQ inBlk noGoto
/-! ### why there is none that is made: plain law -/
theorem ok_idsW {n : Node} (h : nodeOk n = true) : (0 ≤ n.mode ∧ n.mode ≤ 4095) ∧ idOk n.gid = true := by
  unfold nodeOk at h
  simp only [Bool.and_eq_true, decide_eq_true_eq] at h
  exact ⟨⟨by omega, by omega⟩, by simp_all⟩
theorem symlink_q (T : Tab) (c : Cred) (path : ByteArray) : T.symlink c ⟨#[113]⟩ path = ((T.plant c (T.resolve c path false) (fun _ => linkN ⟨#[113]⟩)).1, (T.plant c (T.resolve c path false) (fun _ => linkN ⟨#[113]⟩)).2.2) := by
  unfold Tab.symlink
  rw [if_neg (by decide), if_neg (by decide), if_neg (by decide)]
theorem used_rngW {T : Tab} (hg : T.good) : 0 ≤ T.used ∧ T.used ≤ 24 := by
  have h1 := cnt_le T T.room.toNat
  have h2 := hg.wf.2.1
  unfold Tab.used
  omega
theorem sameTo_selfW (T : Tab) : ∀ k : Nat, T.sameTo T k = true
  | 0 => rfl
  | k + 1 => by simp only [Tab.sameTo, sameTo_selfW T k, same_refl, Bool.and_self]
theorem same_selfW (T : Tab) : T.same T = true := sameTo_selfW T 24
end Abs
end Go.Proofs.Ytpmnfbgnlanpoaa
