import Derived.Test.YtpifnlodilcgkaaGreatXP
import Derived.Test.YtpifnlodilcgkaaGreatXM
set_option linter.unusedVariables false
namespace Go.Proofs.YtpifnlodilcgkaaGreat
namespace Abs
theorem dropB_subs : ∀ a : Fin 64, ∀ b : Fin 64, dropB ((64 * a.val + b.val : Nat) : Int) 1024 = (if ((64 * a.val + b.val : Nat) : Int) / 1024 % 2 = 1 then ((64 * a.val + b.val : Nat) : Int) - 1024 else ((64 * a.val + b.val : Nat) : Int)) ∧ dropB ((64 * a.val + b.val : Nat) : Int) 2048 = (if ((64 * a.val + b.val : Nat) : Int) / 2048 % 2 = 1 then ((64 * a.val + b.val : Nat) : Int) - 2048 else ((64 * a.val + b.val : Nat) : Int)) := by decide +kernel
theorem dropB_sub {m : Int} (h : 0 ≤ m ∧ m ≤ 4095) : dropB m 1024 = (if m / 1024 % 2 = 1 then m - 1024 else m) ∧ dropB m 2048 = (if m / 2048 % 2 = 1 then m - 2048 else m) := by
  have := dropB_subs ⟨m.toNat / 64, by omega⟩ ⟨m.toNat % 64, by omega⟩
  simp only at this
  rw [show ((64 * (m.toNat / 64) + m.toNat % 64 : Nat) : Int) = m by omega] at this
  exact this
theorem div_pow_succ (n : Int) (k : Nat) : n / 2 ^ k / 2 = n / 2 ^ (k + 1) := by
  rw [Int.ediv_ediv_of_nonneg (Int.le_of_lt (Int.pow_pos (by decide))), Int.pow_succ]
theorem div_pow_rng {n : Int} (h : 0 ≤ n ∧ n ≤ 9223372036854775807) (k : Nat) : 0 ≤ n / 2 ^ k ∧ n / 2 ^ k ≤ 9223372036854775807 := by
  have h0 : (0 : Int) < 2 ^ k := Int.pow_pos (by decide)
  refine ⟨Int.ediv_nonneg h.1 (Int.le_of_lt h0), ?_⟩
  have h1 : n / 2 ^ k ≤ n := Int.ediv_le_self _ h.1
  omega
end Abs
end Go.Proofs.YtpifnlodilcgkaaGreat

set_option linter.unusedVariables false
namespace Go.Proofs.YtpifnlodilcgkaaGreat
namespace Abs
set_option linter.unusedSimpArgs false
set_option maxRecDepth 10000
set_option maxHeartbeats 2000000
attribute [local irreducible] AOps AW AP ACalls thenQ inBlk noGoto

/-! ### the document's bits, and who may change what -/
theorem bit_c {n i : Int} {k : Nat} (hi : i = k) (hk : k ≤ 1000) (hn : 0 ≤ n ∧ n ≤ 9223372036854775807) {H : AHeap} {K : AVal → AHeap → Prop} (hK : K (.b (decide (n / 2 ^ k % 2 = 1))) H) : ACalls Tryz.prog 42 [.i n, .i i] H K := by
  refine acalls_body Tryz.func42 rfl rfl rfl ?_
  repeat first|(apply x1;apply r0;apply r0)|apply w4|apply w6|apply w7|apply wb|apply w5
  refine aw_loop (fun j : Nat => j ≤ k) (fun j => [(0, .i (n / 2 ^ j)), (1, .i i), (5, .i j)]) (fun _ => H) (fun j => k - j) 0 (Nat.zero_le _) ?_ (AHeap.sub_refl _) ?_
  · rw [show n / 2 ^ 0 = n by simp]
    exact (by repeat (first | exact Fr.sub_nil _ | refine Fr.sub_cons rfl ?_))
  intro j hj
  have hr := div_pow_rng hn j
  repeat first|(apply x1;apply r0;apply r0)|apply w4|apply w6|apply w7|apply w5
  refine aw_cond rfl (fun c => ?_) (fun c => ?_)<;>first|replace c:=of_decide_eq_true c|replace c:=of_decide_eq_false c
  · have c' : j < k := by omega
    repeat first|(apply x1;apply r0;apply r0)|apply w6|apply w7|apply wa|apply wb|apply w5
    refine s_quo rfl rfl rfl (by decide) hr.1 hr.2 ?_
    rw [div_pow_succ]
    repeat first|(apply x1;apply r0;apply r0)|apply w4|(apply x6;apply r0;omega)|apply w7|apply w5|apply wg
    exact ⟨j + 1, c', by omega, (by repeat (first | exact Fr.sub_nil _ | refine Fr.sub_cons rfl ?_)), AHeap.sub_refl _⟩
  · have hjk : j = k := by omega
    subst hjk
    repeat first|(apply x1;apply r0;apply r0)|apply w6|apply w7|apply wc|apply w5|apply wf|apply wh
    refine s_rem rfl rfl rfl (by decide) hr.1 ?_
    repeat first|(apply x1;apply r0;apply r0)|apply w4|apply wd|apply w5
    exact rt1 (H' := H) rfl rfl (.refl _) s0 hK
theorem rwithout_c {m i bit : Int} {k : Nat} (hi : i = k) (hk : k ≤ 1000) (hm : 0 ≤ m ∧ m ≤ 4095) (hb : 0 ≤ bit ∧ bit ≤ 4095) {H : AHeap} {K : AVal → AHeap → Prop} (hK : K (.i (if m / 2 ^ k % 2 = 1 then m - bit else m)) H) : ACalls Tryz.prog 80 [.i m, .i i, .i bit] H K := by
  refine acalls_body Tryz.func80 rfl rfl rfl ?_
  repeat first|(apply x1;apply r0;apply r0)|(apply x9;apply r0)|apply w4|apply w6|apply w7|apply w5
  refine bit_c hi hk ⟨hm.1, by omega⟩ ?_
  repeat first|apply w4|apply w5
  refine aw_cond rfl (fun c => ?_) (fun c => ?_)<;>first|replace c:=of_decide_eq_true c|replace c:=of_decide_eq_false c
  · rw [if_pos c] at hK
    repeat first|(apply gO;first|(apply x1;apply r0;apply r0)|apply w4|(apply x7;apply r0;omega))|(apply gW;first|apply w6|apply w7|apply wd)|apply w5|apply we
    exact rt1 (H' := H) rfl rfl (.refl _) s0 hK
  · rw [if_neg c] at hK
    repeat first|(apply x1;apply r0;apply r0)|apply w4|apply w6|apply w7|apply wa|apply wd|apply w5
    exact rt1 (H' := H) rfl rfl (.refl _) s0 hK
theorem rwritten_c {c : Cred} (hc : c.small) {kind mode : Int} (hm : in64 mode) {H : AHeap} {K : AVal → AHeap → Prop} (hK : K (.i (c.written kind mode)) H) : ACalls Tryz.prog 49 [.agg (encCred c), .i kind, .i mode] H K := by
  refine acalls_body Tryz.func49 rfl rfl rfl ?_
  unfold Cred.written Cred.root at hK
  repeat first|apply w6|apply w7
  refine s_box rfl rfl rfl (fun b3 hb3 => ?_); have hb := hb3; (try simp only [put_none_iff, prot_none_iff] at hb); (repeat obtain ⟨_, _, hb⟩ := hb)
  repeat first|(apply x1;apply r0;apply r0)|(apply x9;apply r0)|apply w4|apply w6|apply w7|apply w5
  refine low_c hm ?_
  have hr : 0 ≤ mode % 4096 ∧ mode % 4096 ≤ 4095 := by omega
  generalize mode % 4096 = m at hr hK ⊢
  have hd := (dropB_sub hr).2
  have hdr := (dropB_rng hr).2
  repeat first|(apply x1;apply r0;apply r0)|(apply x2;apply r0;(apply q0);apply r0)|apply w4|apply w6|apply w7|apply w5
  refine s_gsplit rfl rfl (fun g1 => ?_) (fun g1 => ?_)<;>first|replace g1:=of_decide_eq_true g1|replace g1:=of_decide_eq_false g1
  · rw [decide_eq_true g1, Bool.true_or, if_pos rfl] at hK
    repeat first|(apply gO;first|(apply x1;apply r0;apply r0)|apply w4|(apply w3;apply r0;apply r0))|(apply gW;first|apply w6|apply w7|(apply w8;apply r0)|apply wd)|apply w5|apply we
    exact rt1 (H' := H) rfl rfl (.refl _) (by repeat first|exact s0|(apply su1;assumption)) hK
  rw [decide_eq_false g1, Bool.false_or] at hK
  repeat first|(apply x1;apply r0;apply r0)|(apply x5;apply r0)|apply w4|apply w5
  refine aw_cond rfl (fun g2 => ?_) (fun g2 => ?_)<;>first|replace g2:=not_t g2|replace g2:=not_f g2
  · rw [decide_eq_false g2, Bool.not_false, if_pos rfl] at hK
    repeat first|(apply x1;apply r0;apply r0)|apply w4|apply w6|apply w7|apply wd|apply w5|apply we
    exact rt1 (H' := H) rfl rfl (.refl _) (by repeat first|exact s0|(apply su1;assumption)) hK
  rw [decide_eq_true g2, Bool.not_true, if_neg (by decide)] at hK
  repeat first|(apply x1;apply r0;apply r0)|(apply x9;apply r0)|apply w6|apply w7|apply wa|apply w5
  refine rwithout_c (k := 11) rfl (by decide) hr ⟨by decide, by decide⟩ ?_
  rw [show (if m / 2 ^ 11 % 2 = 1 then m - 2048 else m) = dropB m 2048 from hd.symm]
  clear hd
  have hdr' : 0 ≤ dropB m 2048 ∧ dropB m 2048 ≤ 4095 := by omega
  generalize dropB m 2048 = q at hdr' hK ⊢
  have hq := (dropB_sub hdr').1
  have h8 := clsBits_lt q 1
  repeat first|(apply x1;apply r0;apply r0)|(apply x9;apply r0)|apply w4|apply w6|apply w7|apply w5
  refine rclass_c (in64_mode hdr') ?_
  skip
  refine s_rem rfl rfl rfl (by decide) h8.1 ?_
  repeat first|(apply x1;apply r0;apply r0)|apply w4|apply w5
  refine aw_cond rfl (fun g3 => ?_) (fun g3 => ?_)<;>first|replace g3:=of_decide_eq_true g3|replace g3:=of_decide_eq_false g3
  · rw [if_neg (show ¬ clsBits q 1 % 2 = 0 by omega), hq] at hK
    repeat first|(apply x1;apply r0;apply r0)|(apply x9;apply r0)|apply w6|apply w7
    refine rwithout_c (k := 10) rfl (by decide) hdr' ⟨by decide, by decide⟩ ?_
    repeat first|(apply x1;apply r0;apply r0)|apply w4|apply wd|apply w5|apply we
    exact rt1 (H' := H) rfl rfl (.refl _) (by repeat first|exact s0|(apply su1;assumption)) hK
  · rw [if_pos (show clsBits q 1 % 2 = 0 by omega)] at hK
    repeat first|(apply x1;apply r0;apply r0)|apply w4|apply w6|apply w7|apply wa|apply wd|apply w5
    exact rt1 (H' := H) rfl rfl (.refl _) (by repeat first|exact s0|(apply su1;assumption)) hK

/-! ### no table -/
/-! ### the document's changes -/
theorem tells_put {T : Tab} {L : List Node} (ht : Tells T L) {i : Int} (hi : T.has i = true) {n : Node} (hn : n = Node.zero ∨ nodeOk n = true) : Tells (T.put (i - 1).toNat n) (L.set (i - 1).toNat n) := by
  have hr := has_rng hi
  exact ⟨rel_put ht.good.wf ht.rel (k := (i - 1).toNat) (by omega) hn, put_good ht.good hn _⟩
theorem tells_rng {T : Tab} {L : List Node} (ht : Tells T L) {i : Int} (hi : T.has i = true) : 1 ≤ i ∧ i ≤ L.length := by
  have h := l_is ht i
  rw [hi] at h
  unfold ris at h
  simp only [Bool.and_eq_true, decide_eq_true_eq] at h
  exact h.1
end Abs
end Go.Proofs.YtpifnlodilcgkaaGreat
