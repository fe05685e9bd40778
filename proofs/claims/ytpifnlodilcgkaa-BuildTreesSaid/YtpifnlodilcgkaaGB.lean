import Derived.Test.YtpifnlodilcgkaaGA
set_option linter.unusedVariables false
namespace Go.Proofs.Ytpifnlodilcgkaa
namespace Abs
set_option linter.unusedSimpArgs false
set_option maxRecDepth 10000
set_option maxHeartbeats 2000000
attribute [local irreducible] AOps AW AP ACalls thenQ inBlk noGoto

/-! ### the document's plant -/
theorem add_cases (T : Tab) (n : Node) : (∃ k : Nat, T.free = some k ∧ nodeOk n = true ∧ T.add n = (T.put k n, (k : Int) + 1, 0)) ∨ (T.free = none ∧ nodeOk n = true ∧ T.add n = (T, 0, 28)) ∨ (nodeOk n = false ∧ T.add n = (T, 0, 22)) := by
  unfold Tab.add
  cases h : nodeOk n with
  | false => rw [if_neg (by decide)]; exact .inr (.inr ⟨rfl, rfl⟩)
  | true =>
    rw [if_pos rfl]
    cases hf : T.free with
    | none => exact .inr (.inl ⟨rfl, rfl, rfl⟩)
    | some k => exact .inl ⟨k, rfl, rfl, rfl⟩
theorem free_spec {T : Tab} {k : Nat} (h : T.free = some k) : (k : Int) < T.room ∧ T.has ((k : Int) + 1) = false := by
  unfold Tab.free at h
  rw [List.find?_range_eq_some] at h
  obtain ⟨h1, h2, h3⟩ := h
  rw [List.mem_range] at h2
  exact ⟨by omega, by simpa using h1⟩
theorem tells_putk {T : Tab} {L : List Node} (ht : Tells T L) {k : Nat} (hk : (k : Int) < T.room) {n : Node} (hn : n = Node.zero ∨ nodeOk n = true) : Tells (T.put k n) (L.set k n) := ⟨rel_put ht.good.wf ht.rel hk hn, put_good ht.good hn _⟩
theorem tells_kind {T : Tab} {L : List Node} (ht : Tells T L) (k : Nat) (hk : k < L.length) : (L.getD k Node.zero).kind = 0 ↔ T.has ((k : Int) + 1) = false := by
  have h := ht.get ((k : Int) + 1)
  unfold rget at h
  rw [if_pos (by omega), show ((k : Int) + 1 - 1).toNat = k by omega] at h
  rw [h]; exact at_kind _
theorem radd2_c {T : Tab} {L : List Node} (ht : Tells T L) (hlen : L.length = T.room.toNat) {n : Node} (hn : n.nlen) {H : AHeap} {K : AVal → AHeap → Prop}
    (hK : ∀ M, Tells (T.add n).1 M → M.length = L.length → K (.tup [.agg (encT M), .i (T.add n).2.1, .i (T.add n).2.2]) H) : ACalls Try.prog 52 [.agg (encT L), .agg (encM n)] H K := by
  have hll : L.length ≤ 1000 := Nat.le_trans ht.rel.most (by decide)
  have hb : ∀ k : Nat, k < L.length ↔ (k : Int) < T.room := fun k => by omega
  unfold Tab.add at hK
  refine radd_c hll hn (fun h => ?_) (fun k h h1 h2 h3 => ?_) (fun h h1 => ?_)
  · rw [if_neg (by rw [h]; decide)] at hK; exact hK L ht rfl
  · have hf : T.free = some k := free_some ((hb k).1 h1) (fun j hj => by
      cases hq : T.has ((j : Int) + 1) with
      | true => rfl
      | false => exact absurd ((tells_kind ht j (by omega)).2 hq) (h2 j hj)) ((tells_kind ht k h1).1 h3)
    rw [if_pos h, hf] at hK
    exact hK _ (tells_putk ht ((hb k).1 h1) (.inr h)) (by rw [List.length_set])
  · have hf : T.free = none := free_none (fun j hj => by
      cases hq : T.has ((j : Int) + 1) with
      | true => rfl
      | false => exact absurd ((tells_kind ht j ((hb j).2 hj)).2 hq) (h1 j ((hb j).2 hj)))
    rw [if_pos h, hf] at hK; exact hK L ht rfl
end Abs
end Go.Proofs.Ytpifnlodilcgkaa
