import Derived.Test.YtpifnlodilcgkaaGB
import Derived.Test.YtpifnlodilcgkaaM1
import Derived.Test.YtpifnlodilcgkaaZ1
set_option linter.unusedVariables false
namespace Go.Proofs.Ytpifnlodilcgkaa
namespace Abs
theorem free_zero {T : Tab} (hg : T.good) {k : Nat} (hf : T.free = some k) : ∃ h : k < T.nodes.length, T.nodes[k] = Node.zero := by
  obtain ⟨h1, h2⟩ := free_spec hf
  have hl := hg.wf.1
  have hr := hg.wf.2.1
  have hk : k < T.nodes.length := by omega
  refine ⟨hk, ?_⟩
  rcases hg.clean _ (List.getElem_mem hk) with h | h
  · exact h
  · have hkd := ok_kind h
    unfold Tab.has at h2
    rw [show ((k : Int) + 1 - 1).toNat = k by omega, List.getD_eq_getElem?_getD, List.getElem?_eq_getElem hk, Option.getD_some, decide_eq_true (show (1 : Int) ≤ (k : Int) + 1 by omega), decide_eq_true (show (k : Int) + 1 ≤ T.room by omega), decide_eq_false hkd] at h2
    cases h2
theorem add_has {T : Tab} (hg : T.good) {k : Nat} (hf : T.free = some k) {n : Node} (hok : nodeOk n = true) : (T.put k n).has ((k : Int) + 1) = true ∧ ∀ i, T.has i = true → (T.put k n).has i = true ∧ i ≠ (k : Int) + 1 ∧ (T.put k n).at i = T.at i := by
  obtain ⟨h1, h2⟩ := free_spec hf
  have hk : k < 24 := by have := hg.wf.2.1; omega
  have ha := at_put hg h1 (.inr hok)
  refine ⟨has_kind'.2 ?_, fun i hi => ?_⟩
  · rw [ha, if_pos rfl]; exact ok_kind hok
  · have hne : i ≠ (k : Int) + 1 := fun e => by rw [e, h2] at hi; cases hi
    have e : (T.put k n).at i = T.at i := by rw [ha, if_neg hne]
    exact ⟨has_kind'.2 (by rw [e]; exact has_kind'.1 hi), hne, e⟩
theorem drop_add {T : Tab} (hg : T.good) {k : Nat} (hf : T.free = some k) {n : Node} (hok : nodeOk n = true) : ((T.put k n).dropE ((k : Int) + 1)).1 = T := by
  obtain ⟨hk, hz⟩ := free_zero hg hf
  unfold Tab.dropE
  rw [if_pos (add_has hg hf hok).1, show ((k : Int) + 1 - 1).toNat = k by omega]
  show (T.put k n).put k Node.zero = T
  have e : (T.put k n).put k Node.zero = T.put k Node.zero := by
    unfold Tab.put; simp
  rw [e, ← hz, put_self]
theorem can_has {T : Tab} {c : Cred} {i w : Int} (h : T.can c i w = true) : T.has i = true := by
  unfold Tab.can at h
  simp only [Bool.and_eq_true] at h
  exact h.1
end Abs
end Go.Proofs.Ytpifnlodilcgkaa

set_option linter.unusedVariables false
namespace Go.Proofs.Ytpifnlodilcgkaa
namespace Abs
set_option linter.unusedSimpArgs false
set_option maxRecDepth 10000
set_option maxHeartbeats 2000000
attribute [local irreducible] AOps AW AP ACalls thenQ inBlk noGoto

theorem Wk.three {a a' b c : AVal} (h : Wk a a') : Wk (.tup [a, b, c]) (.tup [a', b, c]) := .tup rfl (fun j h1 h2 => match j with | 0 => h | 1 => .refl _ | 2 => .refl _)
end Abs
end Go.Proofs.Ytpifnlodilcgkaa
