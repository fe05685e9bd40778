import Derived.Test.YtpifnlodilcgkaaL9
import Derived.Test.YtpifnlodilcgkaaQ10
import Derived.Test.YtpifnlodilcgkaaS1
set_option linter.unusedVariables false
namespace Go.Proofs.Ytpifnlodilcgkaa
namespace Abs
set_option linter.unusedSimpArgs false
set_option maxRecDepth 10000
set_option maxHeartbeats 2000000
attribute [local irreducible] AOps AW AP ACalls thenQ inBlk noGoto

/-! ### TableRight -/
/-- The first k nodes of a table, and none behind them: 24 in all. -/
def upto (T : Tab) (k : Nat) : List Node := (List.range 24).map fun j => if j < k then T.nd j else Node.zero
theorem upto_len (T : Tab) (k : Nat) : (upto T k).length = 24 := by simp [upto]
theorem upto_zero (T : Tab) : upto T 0 = List.replicate 24 Node.zero := by
  refine List.ext_getElem (by simp [upto]) fun j h h' => ?_
  rw [List.getElem_replicate]
  simp only [upto, List.getElem_map, List.getElem_range]
  rw [if_neg (by omega)]
theorem upto_succ (T : Tab) {k : Nat} (hk : k < 24) : (upto T k).set k (T.nd k) = upto T (k + 1) := by
  refine List.ext_getElem (by simp [upto]) fun j h h' => ?_
  rw [List.getElem_set]
  simp only [upto, List.getElem_map, List.getElem_range]
  by_cases e : k = j
  · subst e; simp
  · rw [if_neg e]
    by_cases l : j < k
    · rw [if_pos l, if_pos (by omega)]
    · rw [if_neg l, if_neg (by omega)]
theorem upto_same {T : Tab} {k : Nat} (hz : T.nd k = Node.zero) : upto T (k + 1) = upto T k := by
  simp only [upto]
  refine List.map_congr_left fun j _ => ?_
  by_cases l : j < k
  · rw [if_pos (by omega), if_pos l]
  · rw [if_neg l]
    by_cases e : j = k
    · subst e; rw [if_pos (by omega), hz]
    · rw [if_neg (by omega)]
theorem upto_rel {T : Tab} (hw : T.wf) : Rel T (upto T 24) := ⟨by rw [upto_len]; exact hw.2.1.2, by rw [upto_len]; omega, fun k => by
  rw [List.getD_eq_getElem?_getD]
  rcases Nat.lt_or_ge k 24 with h | h
  · rw [List.getElem?_eq_getElem (by rw [upto_len]; exact h), Option.getD_some]
    simp [upto, h]
  · rw [List.getElem?_eq_none (by rw [upto_len]; exact h), Option.getD_none]
    unfold Tab.nd
    rw [has_beyond (by have := hw.2.1; omega)]; rfl⟩
end Abs
end Go.Proofs.Ytpifnlodilcgkaa
