import Derived.Test.YtpifnlodilcgkaaGreatGA
set_option linter.unusedVariables false
namespace Go.Proofs.YtpifnlodilcgkaaGreat
namespace Abs
set_option linter.unusedSimpArgs false
set_option maxRecDepth 10000
set_option maxHeartbeats 2000000
attribute [local irreducible] AOps AW AP ACalls thenQ inBlk noGoto

/-! ### the document's plant -/
theorem maskTo_small (m u : Int) {k : Nat} (hk : k ≤ 9) : 0 ≤ maskTo m u k ∧ maskTo m u k < 512 := by
  have h := maskTo_rng m u k
  have h2 : (2 : Int) ^ k ≤ 512 := by
    have : (2 : Nat) ^ k ≤ 2 ^ 9 := Nat.pow_le_pow_right (by decide) hk
    have e : (2 : Int) ^ k = ((2 ^ k : Nat) : Int) := (Int.natCast_pow 2 k).symm
    rw [e]; omega
  omega
theorem pow_small {k : Nat} (hk : k ≤ 9) : 0 < (2 : Int) ^ k ∧ (2 : Int) ^ k ≤ 512 := by
  have : (2 : Nat) ^ k ≤ 2 ^ 9 := Nat.pow_le_pow_right (by decide) hk
  have hp := Nat.two_pow_pos k
  have e : (2 : Int) ^ k = ((2 ^ k : Nat) : Int) := (Int.natCast_pow 2 k).symm
  rw [e]; omega
theorem rmasked_c {mode umask : Int} (hm : in64 mode) (hu : in64 umask) {H : AHeap} {K : AVal → AHeap → Prop} (hK : K (.i (maskTo (mode % 4096) (umask % 4096) 9)) H) : ACalls Tryz.prog 47 [.i mode, .i umask] H K := by
  refine acalls_body Tryz.func47 rfl rfl rfl ?_
  have rm : 0 ≤ mode % 4096 ∧ mode % 4096 ≤ 9223372036854775807 := by omega
  have ru : 0 ≤ umask % 4096 ∧ umask % 4096 ≤ 9223372036854775807 := by omega
  repeat first|(apply x1;apply r0;apply r0)|apply w4|apply w6|apply w7|apply wb|apply w5
  refine aw_loop (fun k : Nat => k ≤ 9) (fun k => [(0, .i mode), (1, .i umask), (5, .i (maskTo (mode % 4096) (umask % 4096) k)), (6, .i (2 ^ k)), (7, .i k)]) (fun _ => H) (fun k => 9 - k) 0 (Nat.zero_le _) (by repeat (first | exact Fr.sub_nil _ | refine Fr.sub_cons rfl ?_)) (AHeap.sub_refl _) ?_
  intro k hk
  have hms := maskTo_small (mode % 4096) (umask % 4096) hk
  have hps := pow_small hk
  repeat first|(apply x1;apply r0;apply r0)|apply w4|apply w6|apply w7|apply w5
  refine aw_cond rfl (fun c => ?_) (fun c => ?_)<;>first|replace c:=of_decide_eq_true c|replace c:=of_decide_eq_false c
  · have c' : k < 9 := by omega
    have hstep : maskTo (mode % 4096) (umask % 4096) (k + 1) = maskTo (mode % 4096) (umask % 4096) k + if mode % 4096 / 2 ^ k % 2 = 1 ∧ ¬ umask % 4096 / 2 ^ k % 2 = 1 then 2 ^ k else 0 := rfl
    repeat first|(apply x1;apply r0;apply r0)|(apply x9;apply r0)|apply w6|apply w7|apply wa|apply wb|apply w5
    refine low_c hm ?_
    repeat first|(apply x1;apply r0;apply r0)|(apply x9;apply r0)
    refine bit_c (k := k) rfl (by omega) rm ?_
    repeat (apply x1;apply r0;apply r0)
    refine s_gsplit rfl rfl (fun g1 => ?_) (fun g1 => ?_)<;>first|replace g1:=of_decide_eq_true g1|replace g1:=of_decide_eq_false g1
    · repeat first|(apply x1;apply r0;apply r0)|(apply x5;apply r0)|(apply x9;apply r0)
      refine low_c hu ?_
      repeat first|(apply x1;apply r0;apply r0)|(apply x5;apply r0)|(apply x9;apply r0)
      refine bit_c (k := k) rfl (by omega) ru ?_
      repeat first|(apply x1;apply r0;apply r0)|(apply x5;apply r0)|apply w4|apply w5
      refine aw_cond rfl (fun g2 => ?_) (fun g2 => ?_)<;>first|replace g2:=not_t g2|replace g2:=not_f g2
      · rw [if_pos ⟨g1, g2⟩] at hstep
        repeat first|(apply x1;apply r0;apply r0)|apply w4|(apply x6;apply r0;omega)|apply w7|apply w5
        rw [← hstep]
        refine s_arith (r := 2 ^ (k + 1)) rfl rfl rfl (by simp only; rw [wrap_id (by omega), Int.pow_succ]) ?_
        repeat first|(apply x1;apply r0;apply r0)|apply w4|(apply x6;apply r0;omega)|apply w7|apply w5|apply wg
        exact ⟨k + 1, by omega, by omega, (by repeat (first | exact Fr.sub_nil _ | refine Fr.sub_cons rfl ?_)), AHeap.sub_refl _⟩
      · rw [if_neg (fun q => q.2 g2), Int.add_zero] at hstep
        rw [← hstep]
        repeat first|(apply x1;apply r0;apply r0)|apply w7|apply wa|apply w5
        refine s_arith (r := 2 ^ (k + 1)) rfl rfl rfl (by simp only; rw [wrap_id (by omega), Int.pow_succ]) ?_
        repeat first|(apply x1;apply r0;apply r0)|apply w4|(apply x6;apply r0;omega)|apply w7|apply w5|apply wg
        exact ⟨k + 1, by omega, by omega, (by repeat (first | exact Fr.sub_nil _ | refine Fr.sub_cons rfl ?_)), AHeap.sub_refl _⟩
    · rw [if_neg (fun q => g1 q.1), Int.add_zero] at hstep
      rw [← hstep]
      repeat first|(apply x1;apply r0;apply r0)|apply w4|(apply w3;apply r0;apply r0)|apply w7|(apply w9;apply r0)|apply wa|apply w5
      refine s_arith (r := 2 ^ (k + 1)) rfl rfl rfl (by simp only; rw [wrap_id (by omega), Int.pow_succ]) ?_
      repeat first|(apply x1;apply r0;apply r0)|apply w4|(apply x6;apply r0;omega)|apply w7|apply w5|apply wg
      exact ⟨k + 1, by omega, by omega, (by repeat (first | exact Fr.sub_nil _ | refine Fr.sub_cons rfl ?_)), AHeap.sub_refl _⟩
  · have hke : k = 9 := by omega
    subst hke
    repeat first|(apply gO;first|(apply x1;apply r0;apply r0)|apply w4)|(apply gW;first|apply w6|apply w7|apply wd|apply wc)|apply w5|apply wf|apply wh
    exact rt1 (H' := H) rfl rfl (.refl _) s0 hK
theorem add_cases (T : Tab) (n : Node) : (∃ k : Nat, T.free = some k ∧ nodeOk n = true ∧ T.add n = (T.put k n, (k : Int) + 1, 0)) ∨ (T.free = none ∧ nodeOk n = true ∧ T.add n = (T, 0, 28)) ∨ (nodeOk n = false ∧ T.add n = (T, 0, 22)) := by
  unfold Tab.add
  cases h : nodeOk n with
  | false => rw [if_neg (by decide)]; exact .inr (.inr ⟨rfl, rfl⟩)
  | true =>
    rw [if_pos rfl]
    cases hf : T.free with
    | none => exact .inr (.inl ⟨rfl, rfl, rfl⟩)
    | some k => exact .inl ⟨k, rfl, rfl, rfl⟩
theorem free_spec {T : Tab} {k : Nat} (h : T.free = some k) : (k : Int) < T.room ∧ T.has ((k : Int) + 1) = false := by
  unfold Tab.free at h
  rw [List.find?_range_eq_some] at h
  obtain ⟨h1, h2, h3⟩ := h
  rw [List.mem_range] at h2
  exact ⟨by omega, by simpa using h1⟩
theorem tells_putk {T : Tab} {L : List Node} (ht : Tells T L) {k : Nat} (hk : (k : Int) < T.room) {n : Node} (hn : n = Node.zero ∨ nodeOk n = true) : Tells (T.put k n) (L.set k n) := ⟨rel_put ht.good.wf ht.rel hk hn, put_good ht.good hn _⟩
theorem tells_kind {T : Tab} {L : List Node} (ht : Tells T L) (k : Nat) (hk : k < L.length) : (L.getD k Node.zero).kind = 0 ↔ T.has ((k : Int) + 1) = false := by
  have h := ht.get ((k : Int) + 1)
  unfold rget at h
  rw [if_pos (by omega), show ((k : Int) + 1 - 1).toNat = k by omega] at h
  rw [h]; exact at_kind _
theorem radd2_c {T : Tab} {L : List Node} (ht : Tells T L) (hlen : L.length = T.room.toNat) {n : Node} (hn : n.nlen) {H : AHeap} {K : AVal → AHeap → Prop}
    (hK : ∀ M, Tells (T.add n).1 M → M.length = L.length → K (.tup [.agg (encT M), .i (T.add n).2.1, .i (T.add n).2.2]) H) : ACalls Tryz.prog 75 [.agg (encT L), .agg (encM n)] H K := by
  have hll : L.length ≤ 1000 := Nat.le_trans ht.rel.most (by decide)
  have hb : ∀ k : Nat, k < L.length ↔ (k : Int) < T.room := fun k => by omega
  unfold Tab.add at hK
  refine radd_c hll hn (fun h => ?_) (fun k h h1 h2 h3 => ?_) (fun h h1 => ?_)
  · rw [if_neg (by rw [h]; decide)] at hK; exact hK L ht rfl
  · have hf : T.free = some k := free_some ((hb k).1 h1) (fun j hj => by
      cases hq : T.has ((j : Int) + 1) with
      | true => rfl
      | false => exact absurd ((tells_kind ht j (by omega)).2 hq) (h2 j hj)) ((tells_kind ht k h1).1 h3)
    rw [if_pos h, hf] at hK
    exact hK _ (tells_putk ht ((hb k).1 h1) (.inr h)) (by rw [List.length_set])
  · have hf : T.free = none := free_none (fun j hj => by
      cases hq : T.has ((j : Int) + 1) with
      | true => rfl
      | false => exact absurd ((tells_kind ht j ((hb j).2 hj)).2 hq) (h1 j ((hb j).2 hj)))
    rw [if_pos h, hf] at hK; exact hK L ht rfl
end Abs
end Go.Proofs.YtpifnlodilcgkaaGreat
