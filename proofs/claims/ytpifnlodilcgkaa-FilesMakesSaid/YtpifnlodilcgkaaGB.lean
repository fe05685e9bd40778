import Derived.Test.YtpifnlodilcgkaaGA
set_option linter.unusedVariables false
namespace Go.Proofs.Ytpifnlodilcgkaa
namespace Abs
set_option linter.unusedSimpArgs false
set_option maxRecDepth 10000
set_option maxHeartbeats 2000000
attribute [local irreducible] AOps AW AP ACalls thenQ inBlk noGoto

/-! ### the document's plant -/
theorem add_cases (T : Tab) (n : Node) : (∃ k : Nat, T.free = some k ∧ nodeOk n = true ∧ T.add n = (T.put k n, (k : Int) + 1, 0)) ∨ (T.free = none ∧ nodeOk n = true ∧ T.add n = (T, 0, 28)) ∨ (nodeOk n = false ∧ T.add n = (T, 0, 22)) := by
  unfold Tab.add
  cases h : nodeOk n with
  | false => rw [if_neg (by decide)]; exact .inr (.inr ⟨rfl, rfl⟩)
  | true =>
    rw [if_pos rfl]
    cases hf : T.free with
    | none => exact .inr (.inl ⟨rfl, rfl, rfl⟩)
    | some k => exact .inl ⟨k, rfl, rfl, rfl⟩
theorem free_spec {T : Tab} {k : Nat} (h : T.free = some k) : (k : Int) < T.room ∧ T.has ((k : Int) + 1) = false := by
  unfold Tab.free at h
  rw [List.find?_range_eq_some] at h
  obtain ⟨h1, h2, h3⟩ := h
  rw [List.mem_range] at h2
  exact ⟨by omega, by simpa using h1⟩
end Abs
end Go.Proofs.Ytpifnlodilcgkaa
