import Derived.Test.YtpifnlodilcgkaaGreatHG
import Derived.Test.YtpifnlodilcgkaaGreatHC
import Derived.Test.YtpifnlodilcgkaaGreatGE
import Derived.Test.YtpifnlodilcgkaaGreatXQ
set_option linter.unusedVariables false
namespace Go.Proofs.YtpifnlodilcgkaaGreat
namespace Abs
/-! ### ref16: plain part -/
structure BitsF (flags : Int) : Prop where
  b0 : hasF flags 1 = decide (flags / 2 ^ 0 % 2 = 1)
  b1 : hasF flags 2 = decide (flags / 2 ^ 1 % 2 = 1)
  b2 : hasF flags 4 = decide (flags / 2 ^ 2 % 2 = 1)
  b3 : hasF flags 8 = decide (flags / 2 ^ 3 % 2 = 1)
  b4 : hasF flags 16 = decide (flags / 2 ^ 4 % 2 = 1)
  b5 : hasF flags 32 = decide (flags / 2 ^ 5 % 2 = 1)
  m40 : hasF flags 40 = (hasF flags 32 || hasF flags 8)
  ok : flagsOk flags = ((hasF flags 1 || hasF flags 2) && ((!hasF flags 16 || hasF flags 2) && (!hasF flags 8 || hasF flags 4)))
theorem bitsF_all : ∀ a : Fin 64, hasF ((a.val : Nat) : Int) 1 = decide (((a.val : Nat) : Int) / 2 ^ 0 % 2 = 1) ∧ hasF ((a.val : Nat) : Int) 2 = decide (((a.val : Nat) : Int) / 2 ^ 1 % 2 = 1) ∧ hasF ((a.val : Nat) : Int) 4 = decide (((a.val : Nat) : Int) / 2 ^ 2 % 2 = 1) ∧
    hasF ((a.val : Nat) : Int) 8 = decide (((a.val : Nat) : Int) / 2 ^ 3 % 2 = 1) ∧ hasF ((a.val : Nat) : Int) 16 = decide (((a.val : Nat) : Int) / 2 ^ 4 % 2 = 1) ∧ hasF ((a.val : Nat) : Int) 32 = decide (((a.val : Nat) : Int) / 2 ^ 5 % 2 = 1) ∧
    hasF ((a.val : Nat) : Int) 40 = (hasF ((a.val : Nat) : Int) 32 || hasF ((a.val : Nat) : Int) 8) ∧
    flagsOk ((a.val : Nat) : Int) = ((hasF ((a.val : Nat) : Int) 1 || hasF ((a.val : Nat) : Int) 2) && ((!hasF ((a.val : Nat) : Int) 16 || hasF ((a.val : Nat) : Int) 2) && (!hasF ((a.val : Nat) : Int) 8 || hasF ((a.val : Nat) : Int) 4))) := by decide +kernel
theorem bitsF {flags : Int} (h : 0 ≤ flags ∧ flags ≤ 63) : BitsF flags := by
  have := bitsF_all ⟨flags.toNat, by omega⟩
  simp only at this
  rw [show ((flags.toNat : Nat) : Int) = flags by omega] at this
  obtain ⟨a0, a1, a2, a3, a4, a5, a6, a7⟩ := this
  exact ⟨a0, a1, a2, a3, a4, a5, a6, a7⟩
theorem flagsOk_out {flags : Int} (h : ¬ (0 ≤ flags ∧ flags ≤ 63)) : flagsOk flags = false := by
  unfold flagsOk
  split
  · split
    · rename_i h1 h2; exact absurd ⟨h1, h2⟩ h
    · rfl
  · rfl
theorem flagsOk_rng {flags : Int} (h : flagsOk flags = true) : 0 ≤ flags ∧ flags ≤ 63 := by
  by_cases q : 0 ≤ flags ∧ flags ≤ 63
  · exact q
  · rw [flagsOk_out q] at h; cases h
theorem resolve_node {T : Tab} (hg : T.good) (ht : T.tree) (c : Cred) (path : ByteArray) (fo : Bool) (h : (T.resolve c path fo).2 = 0) : (T.resolve c path fo).1.node = 0 ∨ T.has (T.resolve c path fo).1.node = true := by
  rcases resolve_srch hg ht c path fo with q | ⟨_, q2, _, q4⟩
  · exact absurd h q.1
  · rcases q4 with ⟨_, e⟩ | ⟨_, _, e, _⟩
    · exact .inr (has_kind'.2 (by rw [← e, q2]; decide))
    · by_cases z : (T.at (T.resolve c path fo).1.dir).find (T.resolve c path fo).1.name = 0
      · exact .inl (by rw [← e, z])
      · have := ht.ents _ _ (find_ent z)
        rw [e] at this
        exact .inr this
theorem and642 : ∀ q : Fin 8, decide (bitsR .and .i64 ((q.val : Nat) : Int) (6 % 8) = 6 % 8) = (decide (bitsR .and .i64 ((q.val : Nat) : Int) (4 % 8) = 4 % 8) && decide (bitsR .and .i64 ((q.val : Nat) : Int) (2 % 8) = 2 % 8)) := by decide +kernel
theorem clsBits_rng (m k : Int) : 0 ≤ clsBits m k ∧ clsBits m k ≤ 7 := by
  unfold clsBits
  split
  · omega
  split
  · omega
  split
  · omega
  · omega
theorem can642 (T : Tab) (c : Cred) (i : Int) : T.can c i 6 = (T.can c i 4 && T.can c i 2) := by
  unfold Tab.can Cred.can
  have hr := clsBits_rng (T.at i).mode (c.cls (T.at i).uid (T.at i).gid)
  generalize clsBits (T.at i).mode (c.cls (T.at i).uid (T.at i).gid) = q at hr
  have := and642 ⟨q.toNat, by omega⟩
  simp only at this
  rw [show ((q.toNat : Nat) : Int) = q by omega] at this
  rw [this]
  cases T.has i <;> cases c.root <;> simp
end Abs
end Go.Proofs.YtpifnlodilcgkaaGreat

set_option linter.unusedVariables false
namespace Go.Proofs.YtpifnlodilcgkaaGreat
namespace Abs
set_option linter.unusedSimpArgs false
set_option maxRecDepth 10000
set_option maxHeartbeats 2000000
attribute [local irreducible] AOps AW AP ACalls thenQ inBlk noGoto

/-! ### package gaolerref16 -/
theorem rhas16_c {flags i f : Int} {k : Nat} (hi : i = k) (hk : k ≤ 5) (h : 0 ≤ flags ∧ flags ≤ 63) (hf : hasF flags f = decide (flags / 2 ^ k % 2 = 1)) {H : AHeap} {K : AVal → AHeap → Prop} (hK : K (.b (hasF flags f)) H) : ACalls Tryz.prog 18 [.i flags, .i i] H K := by
  refine acalls_body Tryz.func18 rfl rfl rfl ?_
  repeat first|(apply x1;apply r0;apply r0)|(apply x9;apply r0)|apply w4|apply w6|apply w7|apply w5
  refine bit_c hi (by omega) ⟨h.1, by omega⟩ ?_
  rw [← hf]
  repeat first|(apply x1;apply r0;apply r0)|apply w4|apply wd|apply w5
  exact rt1 (H' := H) rfl rfl (.refl _) s0 hK
theorem rright16_c {flags : Int} {H : AHeap} {K : AVal → AHeap → Prop} (hK : K (.b (flagsOk flags)) H) : ACalls Tryz.prog 17 [.i flags] H K := by
  refine acalls_body Tryz.func17 rfl rfl rfl ?_
  repeat first|(apply x1;apply r0;apply r0)|apply w4|apply w6|apply w7|apply w5
  refine s_gsplit rfl rfl (fun g1 => ?_) (fun g1 => ?_)<;>first|replace g1:=of_decide_eq_true g1|replace g1:=of_decide_eq_false g1
  · rw [flagsOk_out (by omega)] at hK
    repeat first|(apply gO;first|(apply x1;apply r0;apply r0)|apply w4|(apply w3;apply r0;apply r0))|(apply gW;first|apply w6|apply w7|(apply w8;apply r0)|apply wd)|apply w5|apply we
    exact rt1 (H' := H) rfl rfl (.refl _) s0 hK
  repeat first|(apply x1;apply r0;apply r0)|(apply x5;apply r0)|apply w4|apply w5
  refine aw_cond rfl (fun g2 => ?_) (fun g2 => ?_)<;>first|replace g2:=of_decide_eq_true g2|replace g2:=of_decide_eq_false g2
  · rw [flagsOk_out (by omega)] at hK
    repeat first|(apply x1;apply r0;apply r0)|apply w4|apply w6|apply w7|apply wd|apply w5|apply we
    exact rt1 (H' := H) rfl rfl (.refl _) s0 hK
  have hfl : 0 ≤ flags ∧ flags ≤ 63 := by omega
  have hB := bitsF hfl
  rw [hB.ok] at hK
  repeat first|(apply x1;apply r0;apply r0)|(apply x9;apply r0)|apply w6|apply w7|apply wa|apply w5
  refine rhas16_c (k := 0) rfl (by decide) hfl hB.b0 ?_
  cases z2 : hasF flags 2 with
  | false =>
    rw [z2] at hK
    cases z1 : hasF flags 1 with
    | false =>
      rw [z1] at hK
      repeat first|(apply x1;apply r0;apply r0)|(apply x5;apply r0)|(apply x9;apply r0)
      refine rhas16_c (k := 1) rfl (by decide) hfl hB.b1 ?_
      rw [z2]
      repeat first|(apply x1;apply r0;apply r0)|apply w4|(apply w3;apply r0;apply r0)|apply wd|apply w5
      exact rt1 (H' := H) rfl rfl (.refl _) s0 hK
    | true =>
      rw [z1] at hK
      repeat first|(apply x1;apply r0;apply r0)|(apply x5;apply r0)|(apply x9;apply r0)|(apply w3;apply r0;apply r0)
      refine rhas16_c (k := 4) rfl (by decide) hfl hB.b4 ?_
      cases z16 : hasF flags 16 with
      | false =>
        rw [z16] at hK
        repeat first|(apply x1;apply r0;apply r0)|(apply x5;apply r0)|(apply x9;apply r0)|(apply w3;apply r0;apply r0)
        refine rhas16_c (k := 3) rfl (by decide) hfl hB.b3 ?_
        cases z8 : hasF flags 8 with
        | false =>
          rw [z8] at hK
          repeat first|(apply x1;apply r0;apply r0)|(apply x5;apply r0)|apply w4|(apply w3;apply r0;apply r0)|apply wd|apply w5
          exact rt1 (H' := H) rfl rfl (.refl _) s0 hK
        | true =>
          rw [z8] at hK
          repeat first|(apply x1;apply r0;apply r0)|(apply x5;apply r0)|(apply x9;apply r0)
          refine rhas16_c (k := 2) rfl (by decide) hfl hB.b2 ?_
          repeat first|(apply x1;apply r0;apply r0)|(apply x5;apply r0)|apply w4|apply wd|apply w5
          exact rt1 (H' := H) rfl rfl (.refl _) s0 hK
      | true =>
        rw [z16] at hK
        repeat first|(apply x1;apply r0;apply r0)|(apply x5;apply r0)|(apply x9;apply r0)
        refine rhas16_c (k := 1) rfl (by decide) hfl hB.b1 ?_
        rw [z2]
        repeat first|(apply x1;apply r0;apply r0)|(apply x5;apply r0)|apply w4|(apply w3;apply r0;apply r0)|apply wd|apply w5
        exact rt1 (H' := H) rfl rfl (.refl _) s0 hK
  | true =>
    rw [z2] at hK
    cases z1 : hasF flags 1 with
    | false =>
      rw [z1] at hK
      repeat first|(apply x1;apply r0;apply r0)|(apply x5;apply r0)|(apply x9;apply r0)
      refine rhas16_c (k := 1) rfl (by decide) hfl hB.b1 ?_
      rw [z2]
      repeat first|(apply x1;apply r0;apply r0)|(apply x5;apply r0)|(apply x9;apply r0)
      refine rhas16_c (k := 4) rfl (by decide) hfl hB.b4 ?_
      cases z16 : hasF flags 16 with
      | false =>
        rw [z16] at hK
        repeat first|(apply x1;apply r0;apply r0)|(apply x5;apply r0)|(apply x9;apply r0)|(apply w3;apply r0;apply r0)
        refine rhas16_c (k := 3) rfl (by decide) hfl hB.b3 ?_
        cases z8 : hasF flags 8 with
        | false =>
          rw [z8] at hK
          repeat first|(apply x1;apply r0;apply r0)|(apply x5;apply r0)|apply w4|(apply w3;apply r0;apply r0)|apply wd|apply w5
          exact rt1 (H' := H) rfl rfl (.refl _) s0 hK
        | true =>
          rw [z8] at hK
          repeat first|(apply x1;apply r0;apply r0)|(apply x5;apply r0)|(apply x9;apply r0)
          refine rhas16_c (k := 2) rfl (by decide) hfl hB.b2 ?_
          repeat first|(apply x1;apply r0;apply r0)|(apply x5;apply r0)|apply w4|apply wd|apply w5
          exact rt1 (H' := H) rfl rfl (.refl _) s0 hK
      | true =>
        rw [z16] at hK
        repeat first|(apply x1;apply r0;apply r0)|(apply x5;apply r0)|(apply x9;apply r0)
        refine rhas16_c (k := 1) rfl (by decide) hfl hB.b1 ?_
        rw [z2]
        repeat first|(apply x1;apply r0;apply r0)|(apply x5;apply r0)|(apply x9;apply r0)
        refine rhas16_c (k := 3) rfl (by decide) hfl hB.b3 ?_
        cases z8 : hasF flags 8 with
        | false =>
          rw [z8] at hK
          repeat first|(apply x1;apply r0;apply r0)|(apply x5;apply r0)|apply w4|(apply w3;apply r0;apply r0)|apply wd|apply w5
          exact rt1 (H' := H) rfl rfl (.refl _) s0 hK
        | true =>
          rw [z8] at hK
          repeat first|(apply x1;apply r0;apply r0)|(apply x5;apply r0)|(apply x9;apply r0)
          refine rhas16_c (k := 2) rfl (by decide) hfl hB.b2 ?_
          repeat first|(apply x1;apply r0;apply r0)|(apply x5;apply r0)|apply w4|apply wd|apply w5
          exact rt1 (H' := H) rfl rfl (.refl _) s0 hK
    | true =>
      rw [z1] at hK
      repeat first|(apply x1;apply r0;apply r0)|(apply x5;apply r0)|(apply x9;apply r0)|(apply w3;apply r0;apply r0)
      refine rhas16_c (k := 4) rfl (by decide) hfl hB.b4 ?_
      cases z16 : hasF flags 16 with
      | false =>
        rw [z16] at hK
        repeat first|(apply x1;apply r0;apply r0)|(apply x5;apply r0)|(apply x9;apply r0)|(apply w3;apply r0;apply r0)
        refine rhas16_c (k := 3) rfl (by decide) hfl hB.b3 ?_
        cases z8 : hasF flags 8 with
        | false =>
          rw [z8] at hK
          repeat first|(apply x1;apply r0;apply r0)|(apply x5;apply r0)|apply w4|(apply w3;apply r0;apply r0)|apply wd|apply w5
          exact rt1 (H' := H) rfl rfl (.refl _) s0 hK
        | true =>
          rw [z8] at hK
          repeat first|(apply x1;apply r0;apply r0)|(apply x5;apply r0)|(apply x9;apply r0)
          refine rhas16_c (k := 2) rfl (by decide) hfl hB.b2 ?_
          repeat first|(apply x1;apply r0;apply r0)|(apply x5;apply r0)|apply w4|apply wd|apply w5
          exact rt1 (H' := H) rfl rfl (.refl _) s0 hK
      | true =>
        rw [z16] at hK
        repeat first|(apply x1;apply r0;apply r0)|(apply x5;apply r0)|(apply x9;apply r0)
        refine rhas16_c (k := 1) rfl (by decide) hfl hB.b1 ?_
        rw [z2]
        repeat first|(apply x1;apply r0;apply r0)|(apply x5;apply r0)|(apply x9;apply r0)
        refine rhas16_c (k := 3) rfl (by decide) hfl hB.b3 ?_
        cases z8 : hasF flags 8 with
        | false =>
          rw [z8] at hK
          repeat first|(apply x1;apply r0;apply r0)|(apply x5;apply r0)|apply w4|(apply w3;apply r0;apply r0)|apply wd|apply w5
          exact rt1 (H' := H) rfl rfl (.refl _) s0 hK
        | true =>
          rw [z8] at hK
          repeat first|(apply x1;apply r0;apply r0)|(apply x5;apply r0)|(apply x9;apply r0)
          refine rhas16_c (k := 2) rfl (by decide) hfl hB.b2 ?_
          repeat first|(apply x1;apply r0;apply r0)|(apply x5;apply r0)|apply w4|apply wd|apply w5
          exact rt1 (H' := H) rfl rfl (.refl _) s0 hK
theorem rwrote_c {c : Cred} (hc : c.small) {n : Node} (hm : in64 n.mode) {d : ByteArray} {H : AHeap} {K : AVal → AHeap → Prop} (hK : K (.agg (encM (wrote c n d))) H) : ACalls Tryz.prog 24 [.agg (encCred c), .agg (encM n), .s d] H K := by
  refine acalls_body Tryz.func24 rfl rfl rfl ?_
  repeat first|apply w6|apply w7
  refine s_box rfl rfl rfl (fun b3 hb3 => ?_); have hb := hb3; (try simp only [put_none_iff, prot_none_iff] at hb); (repeat obtain ⟨_, _, hb⟩ := hb)
  skip
  refine s_box rfl rfl rfl (fun b4 hb4 => ?_); have hb := hb4; (try simp only [put_none_iff, prot_none_iff] at hb); (repeat obtain ⟨_, _, hb⟩ := hb)
  skip
  refine s_alloc tk rfl rfl rfl (fun b6 hb6 => ?_); have hb := hb6; (try simp only [put_none_iff, prot_none_iff] at hb); (repeat obtain ⟨_, _, hb⟩ := hb)
  repeat first|(apply gO;first|(apply x1;apply r0;apply r0)|(apply x2;apply r0;(with_reducible repeat first|assumption|apply q0|apply ps|apply q3|apply gp);apply r0)|(apply xst;apply r0;(with_reducible repeat first|assumption|apply q0|apply ps|apply q3|apply gp);apply r0)|(apply x9;apply r0)|apply w4)|(apply gW;first|apply w6|apply w7)|apply w5
  refine rwritten_c hc hm ?_
  repeat first|(apply gO;first|(apply x1;apply r0;apply r0)|(apply x2;apply r0;(with_reducible repeat first|assumption|apply q0|apply ps|apply gp);apply r0)|(apply xst;apply r0;(with_reducible repeat first|assumption|apply q0|apply ps|apply gp);apply r0)|apply w4)|(apply gW;first|apply w6|apply w7|apply wd)|apply w5
  exact rt1c (H' := H) rfl rfl (by apply q0) rfl (by rfl) (by exact wk_agg rfl) (by repeat first|exact s0|(apply su1;assumption)) hK
theorem ropen_c {T : Tab} {L : List Node} (htr : T.tree) (ht : Tells T L) (hlen : L.length = T.room.toNat) {c : Cred} (hc : c.small) {umask mode flags : Int} (hu : in64 umask) (hm : in64 mode) {path : ByteArray} (hp : path.size ≤ 16777200) {H : AHeap} {K : AVal → AHeap → Prop}
    (hK : ∀ M, Tells (T.openF c umask (T.resolve c path (!hasF flags 40)) flags mode).1 M → K (.tup [.agg (encT M), .i (T.openF c umask (T.resolve c path (!hasF flags 40)) flags mode).2.1, .i (T.openF c umask (T.resolve c path (!hasF flags 40)) flags mode).2.2]) H) :
    ACalls Tryz.prog 7 [.agg (encT L), .agg (encCred c), .i umask, .s path, .i flags, .i mode] H K := by
  refine acalls_body Tryz.func7 rfl rfl rfl ?_
  have hg := ht.good
  obtain ⟨R, hR⟩ : ∃ R, R = T.openF c umask (T.resolve c path (!hasF flags 40)) flags mode := ⟨_, rfl⟩
  rw [← hR] at hK
  unfold Tab.openF at hR
  repeat first|apply w6|apply w7
  refine s_box rfl rfl rfl (fun b6 hb6 => ?_); have hb := hb6; (try simp only [put_none_iff, prot_none_iff] at hb); (repeat obtain ⟨_, _, hb⟩ := hb)
  skip
  refine s_box rfl rfl rfl (fun b7 hb7 => ?_); have hb := hb7; (try simp only [put_none_iff, prot_none_iff] at hb); (repeat obtain ⟨_, _, hb⟩ := hb)
  skip
  refine s_alloc tk rfl rfl rfl (fun b12 hb12 => ?_); have hb := hb12; (try simp only [put_none_iff, prot_none_iff] at hb); (repeat obtain ⟨_, _, hb⟩ := hb)
  repeat first|(apply x1;apply r0;apply r0)|(apply x9;apply r0)|apply w4|apply w6|apply w7|apply w5
  refine rright16_c ?_
  cases z0 : flagsOk flags with
  | false =>
    rw [z0, if_pos rfl] at hR
    rw [hR] at hK
    repeat first|(apply gO;first|(apply x1;apply r0;apply r0)|(apply x2;apply r0;(with_reducible repeat first|assumption|apply q0|apply ps|apply q3);apply r0)|(apply xst;apply r0;(with_reducible repeat first|assumption|apply q0|apply ps|apply q3);apply r0)|apply w4)|(apply gW;first|apply w6|apply w7|(apply w8;apply r0)|apply wd)|apply w5|apply we
    exact rt3c (H' := H) rfl rfl (by apply q0) rfl (by rfl) rfl rfl (by exact Wk.three (wk_agg rfl)) (by repeat first|exact s0|(apply su1;assumption)) (hK L ht)
  | true =>
    rw [z0, if_neg (show ¬ true = false by decide)] at hR
    have hfl := flagsOk_rng z0
    have hB := bitsF hfl
    obtain ⟨fo, hfo⟩ : ∃ fo, fo = !hasF flags 40 := ⟨_, rfl⟩
    rw [← hfo] at hR
    rw [hB.m40] at hfo
    repeat (apply gO;first|(apply x1;apply r0;apply r0)|((first|apply x2|apply xst);apply r0;(with_reducible repeat first|assumption|apply q0|apply ps|exact q1 ‹_›|exact q2 ‹_›|apply q4|apply pg|apply q3|apply gp|apply gq|exact n1 ‹_› ‹_›|exact n2 ‹_› ‹_›|exact n3 ‹_› ‹_›|exact n4 ‹_› ‹_›|apply nm1|exact nm0|exact mm0|apply mm1);apply r0)|((first|apply x3|apply x5|apply x8|apply xbd|apply xbs|apply x9);apply r0)|apply w4|(apply w3;apply r0;apply r0)|((first|apply x6|apply x7);apply r0;omega))
    first | apply w7 | apply w5 | apply wl | apply wg | apply we | apply wf | apply wh | apply wj | apply wm | apply wn | apply wa | apply wd | apply wb | apply wc | apply wk
    apply w6
    generalize hY : (H.put b6 _).put b7 _ = Y0
    generalize hY2 : AHeap.put Y0 b12 _ = Y
    have yr6 : Rd Y b6 (encT L) := by rw [← hY2, ← hY]; exact (by apply rd_eq;(focus with_reducible repeat first|assumption|apply q0|apply q3);rfl)
    have yr7 : Rd Y b7 (encCred c) := by rw [← hY2, ← hY]; exact (by apply rd_eq;(focus with_reducible repeat first|assumption|apply q0|apply q3);rfl)
    have y12' : Y b12 = some (.cells [.sl [] .full]) := by rw [← hY2]; exact (by apply get_eq;(focus apply ps);rfl)
    have ys : H.sub Y := by rw [← hY2, ← hY]; exact (by repeat first|exact s0|(apply su1;assumption))
    clear hY2 hY
    refine aw_cutS (fun F' H' => Fr.sub [(2, .i umask), (3, .s path), (4, .i flags), (5, .i mode), (6, .ptr b6 0), (7, .ptr b7 0), (12, .ptr b12 0)] F' ∧ Y.sub H') ?_ ?_
    · repeat first|(apply x1;apply r0;apply r0)|apply w4|apply w6|apply w7|(apply w9;apply r0)|apply wa|apply w5
      exact ⟨(by repeat (first | exact Fr.sub_nil _ | refine Fr.sub_cons rfl ?_)), AHeap.sub_refl _⟩
    rintro F' H' ⟨hF, hH⟩
    refine AW_sub ?_ hF hH
    clear hF hH
    apply w6
    refine aw_cutS (fun F' H' => Fr.sub [(2, .i umask), (3, .s path), (4, .i flags), (5, .i mode), (6, .ptr b6 0), (7, .ptr b7 0), (12, .ptr b12 0), (16, .b fo)] F' ∧ Y.sub H') ?_ ?_
    · repeat first|(apply x1;apply r0;apply r0)|(apply x9;apply r0)|apply w7
      refine rhas16_c (k := 5) rfl (by decide) hfl hB.b5 ?_
      cases z32 : hasF flags 32 with
      | true =>
        rw [z32] at hfo
        rw [hfo]
        repeat first|(apply x1;apply r0;apply r0)|apply w4|(apply w3;apply r0;apply r0)|apply w5
        exact ⟨(by repeat (first | exact Fr.sub_nil _ | refine Fr.sub_cons rfl ?_)), AHeap.sub_refl _⟩
      | false =>
        rw [z32] at hfo
        rw [hfo]
        repeat first|(apply x1;apply r0;apply r0)|(apply x5;apply r0)|(apply x9;apply r0)
        refine rhas16_c (k := 3) rfl (by decide) hfl hB.b3 ?_
        repeat first|(apply x1;apply r0;apply r0)|(apply x5;apply r0)|apply w4|apply w5
        exact ⟨(by repeat (first | exact Fr.sub_nil _ | refine Fr.sub_cons rfl ?_)), AHeap.sub_refl _⟩
    rintro F' H' ⟨hF, hH⟩
    refine AW_sub ?_ hF hH
    clear hF hH
    repeat first|(apply x1;apply r0;apply r0)|(apply x2;apply r0;(with_reducible assumption);apply r0)|(apply x9;apply r0)|apply w6|apply w7
    refine rresolve_c ht hc hp ?_
    have hnode := resolve_node hg htr c path fo
    generalize hr : T.resolve c path fo = r at hR hnode ⊢
    repeat (apply x1;apply r0;apply r0)
    refine s_alloc tk rfl rfl rfl (fun b17 hb17 => ?_); have hb := hb17; (try simp only [put_none_iff, prot_none_iff] at hb); (repeat obtain ⟨_, _, hb⟩ := hb)
    have n1217 : b12 ≠ b17 := get_ne y12' hb
    repeat first|(apply x1;apply r0;apply r0)|(apply xst;apply r0;(apply ps);apply r0)|apply w4|apply w6|apply w7|apply w5
    refine aw_cond rfl (fun g1 => ?_) (fun g1 => ?_)<;>first|replace g1:=not_t g1|replace g1:=not_f g1
    · rw [if_pos g1] at hR
      rw [hR] at hK
      repeat first|(apply gO;first|(apply x1;apply r0;apply r0)|(apply x2;apply r0;(with_reducible repeat first|assumption|apply q3|apply gp|exact n1 ‹_› ‹_›);apply r0)|(apply xst;apply r0;(with_reducible repeat first|assumption|apply q3|apply gp|exact n1 ‹_› ‹_›);apply r0)|apply w4)|(apply gW;first|apply w6|apply w7|apply wd)|apply w5|apply we
      exact rt3c (H' := H) rfl rfl (by apply q0) rfl (by rfl) rfl rfl (by exact Wk.three (wk_agg rfl)) (by repeat first|assumption|(apply su1;assumption)|(apply su3;assumption;assumption)) (hK L ht)
    rw [if_neg (fun q => q g1)] at hR
    have hnode' := hnode g1
    repeat first|(apply x1;apply r0;apply r0)|(apply x2;apply r0;(apply q0);apply r0)|apply w4|apply w6|apply w7|apply wa|apply w5
    refine aw_cond rfl (fun g2 => ?_) (fun g2 => ?_)<;>first|replace g2:=of_decide_eq_true g2|replace g2:=of_decide_eq_false g2
    · have hh : T.has r.1.node = false := by
        cases hh : T.has r.1.node with
        | false => rfl
        | true => have := (has_rng hh).1; omega
      rw [hh, if_pos rfl] at hR
      repeat first|(apply x1;apply r0;apply r0)|(apply x9;apply r0)|apply w6|apply w7
      refine rhas16_c (k := 2) rfl (by decide) hfl hB.b2 ?_
      cases z4 : hasF flags 4 with
      | false =>
        rw [z4, if_pos rfl] at hR
        rw [hR] at hK
        repeat first|(apply gO;first|(apply x1;apply r0;apply r0)|(apply x2;apply r0;(with_reducible repeat first|assumption|apply q3|apply gp|exact n1 ‹_› ‹_›);apply r0)|(apply xst;apply r0;(with_reducible repeat first|assumption|apply q3|apply gp|exact n1 ‹_› ‹_›);apply r0)|apply w4)|(apply gW;first|apply w6|apply w7|(apply w8;apply r0)|apply wd)|apply w5|apply we
        exact rt3c (H' := H) rfl rfl (by apply q0) rfl (by rfl) rfl rfl (by exact Wk.three (wk_agg rfl)) (by repeat first|assumption|(apply su1;assumption)|(apply su3;assumption;assumption)) (hK L ht)
      | true =>
        rw [z4, if_neg (show ¬ true = false by decide)] at hR
        rw [hR] at hK
        repeat first|(apply gO;first|(apply x1;apply r0;apply r0)|(apply x2;apply r0;(with_reducible repeat first|assumption|apply q3|exact n1 ‹_› ‹_›);apply r0)|(apply x9;apply r0)|apply w4)|(apply gW;first|apply w6|apply w7|(apply w9;apply r0)|apply wa)|apply w5
        refine rcreate_c ht hlen hc hu hm hp (fun M hM => ?_)
        rw [hr] at hM ⊢
        generalize T.plant c r (fun _ => fileN mode umask) = Q at hK hM ⊢
        repeat first|(apply x1;apply r0;apply r0)|(apply xst;apply r0;(with_reducible repeat first|assumption|apply gp);apply r0)|apply w4|apply wd|apply w5|apply we
        exact rt3c (H' := H) rfl rfl (by apply q0) rfl (by rfl) rfl rfl (by exact Wk.three (wk_agg rfl)) (by repeat first|assumption|(apply su1;assumption)|(apply su3;assumption;assumption)) (hK M hM)
    have hh : T.has r.1.node = true := hnode'.resolve_left g2
    rw [hh, if_neg (show ¬ true = false by decide)] at hR
    have hrg := has_rng hh
    have hok := at_okG hg hh
    repeat first|(apply x1;apply r0;apply r0)|(apply x2;apply r0;(with_reducible repeat first|assumption|apply q0|apply q3|exact n1 ‹_› ‹_›);apply r0)|(apply x9;apply r0)|apply w6|apply w7|apply wa|apply w5
    refine rget_c ht.len ?_
    rw [ht.get]
    skip
    refine s_alloc tk rfl rfl rfl (fun b19 hb19 => ?_); have hb := hb19; (try simp only [put_none_iff, prot_none_iff] at hb); (repeat obtain ⟨_, _, hb⟩ := hb)
    have n1219 : b12 ≠ b19 := get_ne y12' hb
    repeat first|(apply x1;apply r0;apply r0)|(apply xst;apply r0;(apply ps);apply r0)|(apply x9;apply r0)|apply w4|apply w6|apply w7|apply w5
    refine rhas16_c (k := 3) rfl (by decide) hfl hB.b3 ?_
    cases z8 : hasF flags 8 with
    | true =>
      rw [z8, if_pos rfl] at hR
      rw [hR] at hK
      repeat first|(apply gO;first|(apply x1;apply r0;apply r0)|(apply x2;apply r0;(with_reducible repeat first|assumption|apply q3|apply gp|exact n1 ‹_› ‹_›);apply r0)|(apply xst;apply r0;(with_reducible repeat first|assumption|apply q3|apply gp|exact n1 ‹_› ‹_›);apply r0)|apply w4)|(apply gW;first|apply w6|apply w7|(apply w8;apply r0)|apply wd)|apply w5|apply we
      exact rt3c (H' := H) rfl rfl (by apply q0) rfl (by rfl) rfl rfl (by exact Wk.three (wk_agg rfl)) (by repeat first|assumption|(apply su1;assumption)|(apply su3;assumption;assumption)) (hK L ht)
    | false =>
      rw [z8, if_neg (show ¬ false = true by decide)] at hR
      repeat first|(apply gO;first|(apply x1;apply r0;apply r0)|(apply x2;apply r0;(apply q0);apply r0)|apply w4)|(apply gW;first|apply w6|apply w7|(apply w9;apply r0)|apply wa)|apply w5
      refine aw_cond rfl (fun k3 => ?_) (fun k3 => ?_)<;>first|replace k3:=of_decide_eq_true k3|replace k3:=of_decide_eq_false k3
      · rw [if_pos k3] at hR
        rw [hR] at hK
        repeat first|(apply gO;first|(apply x1;apply r0;apply r0)|(apply x2;apply r0;(with_reducible repeat first|assumption|apply q3|apply gp|exact n1 ‹_› ‹_›);apply r0)|(apply xst;apply r0;(with_reducible repeat first|assumption|apply q3|apply gp|exact n1 ‹_› ‹_›);apply r0)|apply w4)|(apply gW;first|apply w6|apply w7|apply wd)|apply w5|apply we
        exact rt3c (H' := H) rfl rfl (by apply q0) rfl (by rfl) rfl rfl (by exact Wk.three (wk_agg rfl)) (by repeat first|assumption|(apply su1;assumption)|(apply su3;assumption;assumption)) (hK L ht)
      rw [if_neg k3] at hR
      repeat first|(apply x1;apply r0;apply r0)|(apply x2;apply r0;(apply q0);apply r0)|apply w4|apply w6|apply w7|apply wa|apply w5
      refine aw_cond rfl (fun k2 => ?_) (fun k2 => ?_)<;>first|replace k2:=of_decide_eq_true k2|replace k2:=of_decide_eq_false k2
      · rw [if_pos k2] at hR
        rw [hR] at hK
        repeat first|(apply gO;first|(apply x1;apply r0;apply r0)|(apply x2;apply r0;(with_reducible repeat first|assumption|apply q3|apply gp|exact n1 ‹_› ‹_›);apply r0)|(apply xst;apply r0;(with_reducible repeat first|assumption|apply q3|apply gp|exact n1 ‹_› ‹_›);apply r0)|apply w4)|(apply gW;first|apply w6|apply w7|apply wd)|apply w5|apply we
        exact rt3c (H' := H) rfl rfl (by apply q0) rfl (by rfl) rfl rfl (by exact Wk.three (wk_agg rfl)) (by repeat first|assumption|(apply su1;assumption)|(apply su3;assumption;assumption)) (hK L ht)
      rw [if_neg k2] at hR
      cases hcan : T.can c r.1.node (wantF flags) with
      | false =>
        rw [hcan, if_pos rfl] at hR
        repeat first|(apply x1;apply r0;apply r0)|(apply x9;apply r0)|apply w6|apply w7|apply wa|apply w5
        refine rhas16_c (k := 0) rfl (by decide) hfl hB.b0 ?_
        cases z1 : hasF flags 1 with
        | true =>
          repeat first|(apply x1;apply r0;apply r0)|(apply x2;apply r0;(with_reducible repeat first|assumption|apply q0|apply q3|exact n1 ‹_› ‹_›);apply r0)|(apply x5;apply r0)|(apply x9;apply r0)
          refine rcan1_c ht hc (by unfold in64; omega) ?_
          cases q4' : T.can c r.1.node 4 with
          | false =>
            rw [hR] at hK
            repeat first|(apply gO;first|(apply x1;apply r0;apply r0)|(apply x2;apply r0;(with_reducible repeat first|assumption|apply q3|apply gp|exact n1 ‹_› ‹_›);apply r0)|(apply xst;apply r0;(with_reducible repeat first|assumption|apply q3|apply gp|exact n1 ‹_› ‹_›);apply r0)|(apply x5;apply r0)|apply w4|(apply w3;apply r0;apply r0))|(apply gW;first|apply w6|apply w7|(apply w8;apply r0)|apply wd)|apply w5|apply we
            exact rt3c (H' := H) rfl rfl (by apply q0) rfl (by rfl) rfl rfl (by exact Wk.three (wk_agg rfl)) (by repeat first|assumption|(apply su1;assumption)|(apply su3;assumption;assumption)) (hK L ht)
          | true =>
            repeat first|(apply x1;apply r0;apply r0)|(apply x5;apply r0)|(apply x9;apply r0)
            refine rhas16_c (k := 1) rfl (by decide) hfl hB.b1 ?_
            cases z2 : hasF flags 2 with
            | true =>
              repeat first|(apply x1;apply r0;apply r0)|(apply x2;apply r0;(with_reducible repeat first|assumption|apply q0|apply q3|exact n1 ‹_› ‹_›);apply r0)|(apply x5;apply r0)|(apply x9;apply r0)
              refine rcan1_c ht hc (by unfold in64; omega) ?_
              cases q2' : T.can c r.1.node 2 with
              | false =>
                rw [hR] at hK
                repeat first|(apply gO;first|(apply x1;apply r0;apply r0)|(apply x2;apply r0;(with_reducible repeat first|assumption|apply q3|apply gp|exact n1 ‹_› ‹_›);apply r0)|(apply xst;apply r0;(with_reducible repeat first|assumption|apply q3|apply gp|exact n1 ‹_› ‹_›);apply r0)|(apply x5;apply r0)|apply w4)|(apply gW;first|apply w6|apply w7|(apply w8;apply r0)|apply wd)|apply w5|apply we
                exact rt3c (H' := H) rfl rfl (by apply q0) rfl (by rfl) rfl rfl (by exact Wk.three (wk_agg rfl)) (by repeat first|assumption|(apply su1;assumption)|(apply su3;assumption;assumption)) (hK L ht)
              | true => exact absurd (hcan.symm.trans (by unfold wantF; simp [z1, z2, can642, q4', q2'])) (by decide : ¬ false = true)
            | false => exact absurd (hcan.symm.trans (by unfold wantF; simp [z1, z2, q4'])) (by decide : ¬ false = true)
        | false =>
          repeat first|(apply x1;apply r0;apply r0)|(apply x5;apply r0)|(apply x9;apply r0)|(apply w3;apply r0;apply r0)
          refine rhas16_c (k := 1) rfl (by decide) hfl hB.b1 ?_
          cases z2 : hasF flags 2 with
          | true =>
            repeat first|(apply x1;apply r0;apply r0)|(apply x2;apply r0;(with_reducible repeat first|assumption|apply q0|apply q3|exact n1 ‹_› ‹_›);apply r0)|(apply x5;apply r0)|(apply x9;apply r0)
            refine rcan1_c ht hc (by unfold in64; omega) ?_
            cases q2' : T.can c r.1.node 2 with
            | false =>
              rw [hR] at hK
              repeat first|(apply gO;first|(apply x1;apply r0;apply r0)|(apply x2;apply r0;(with_reducible repeat first|assumption|apply q3|apply gp|exact n1 ‹_› ‹_›);apply r0)|(apply xst;apply r0;(with_reducible repeat first|assumption|apply q3|apply gp|exact n1 ‹_› ‹_›);apply r0)|(apply x5;apply r0)|apply w4)|(apply gW;first|apply w6|apply w7|(apply w8;apply r0)|apply wd)|apply w5|apply we
              exact rt3c (H' := H) rfl rfl (by apply q0) rfl (by rfl) rfl rfl (by exact Wk.three (wk_agg rfl)) (by repeat first|assumption|(apply su1;assumption)|(apply su3;assumption;assumption)) (hK L ht)
            | true => exact absurd (hcan.symm.trans (by unfold wantF; simp [z1, z2, q2'])) (by decide : ¬ false = true)
          | false => exact absurd z0 (by rw [hB.ok, z1, z2]; simp)
      | true =>
        rw [hcan, if_neg (show ¬ true = false by decide)] at hR
        first | apply w7 | apply w5 | apply wl | apply wg | apply we | apply wf | apply wh | apply wj | apply wm | apply wn | apply wa | apply wd | apply wb | apply wc | apply wk
        first | apply w7 | apply w5 | apply wl | apply wg | apply we | apply wf | apply wh | apply wj | apply wm | apply wn | apply wa | apply wd | apply wb | apply wc | apply wk
        apply w6
        generalize hV : AHeap.put _ b19 _ = V
        have vr6 : Rd V b6 (encT L) := by rw [← hV]; exact (by apply rd_eq;(focus with_reducible repeat first|assumption|apply q3|exact n1 ‹_› ‹_›);rfl)
        have vr7 : Rd V b7 (encCred c) := by rw [← hV]; exact (by apply rd_eq;(focus with_reducible repeat first|assumption|apply q3|exact n1 ‹_› ‹_›);rfl)
        have v12' : V b12 = some (.cells [.sl [] .full]) := by rw [← hV]; exact (by apply get_eq;(focus with_reducible repeat first|assumption|apply gp);rfl)
        have vr17 : Rd V b17 (encF r.1) := by rw [← hV]; exact (by apply rd_eq;(focus with_reducible repeat first|assumption|apply q0|apply q3);rfl)
        have vr19 : Rd V b19 (encM (T.at r.1.node)) := by rw [← hV]; exact (by apply rd_eq;(focus apply q0);rfl)
        have vss : H.sub V := by rw [← hV]; exact (by repeat first|assumption|(apply su3;assumption;assumption))
        clear hV
        refine aw_cutS (fun F' H' => Fr.sub [(4, .i flags), (6, .ptr b6 0), (7, .ptr b7 0), (12, .ptr b12 0), (17, .ptr b17 0), (19, .ptr b19 0)] F' ∧ V.sub H') ?_ ?_
        · repeat first|(apply x1;apply r0;apply r0)|(apply x9;apply r0)|apply w6|apply w7
          refine rhas16_c (k := 0) rfl (by decide) hfl hB.b0 ?_
          cases z1 : hasF flags 1 with
          | true =>
            repeat first|(apply x1;apply r0;apply r0)|(apply x2;apply r0;(with_reducible assumption);apply r0)|(apply x5;apply r0)|(apply x9;apply r0)
            refine rcan1_c ht hc (by unfold in64; omega) ?_
            cases q4' : T.can c r.1.node 4 with
            | false => exact absurd (hcan.symm.trans (by unfold wantF; cases hz : hasF flags 2 <;> simp [z1, can642, q4'])) (by decide : ¬ true = false)
            | true =>
              repeat first|(apply x1;apply r0;apply r0)|(apply x5;apply r0)|(apply x9;apply r0)
              refine rhas16_c (k := 1) rfl (by decide) hfl hB.b1 ?_
              cases z2 : hasF flags 2 with
              | true =>
                repeat first|(apply x1;apply r0;apply r0)|(apply x2;apply r0;(with_reducible assumption);apply r0)|(apply x5;apply r0)|(apply x9;apply r0)
                refine rcan1_c ht hc (by unfold in64; omega) ?_
                cases q2' : T.can c r.1.node 2 with
                | false => exact absurd (hcan.symm.trans (by unfold wantF; simp [z1, z2, can642, q4', q2'])) (by decide : ¬ true = false)
                | true =>
                  repeat first|(apply x1;apply r0;apply r0)|(apply x5;apply r0)|apply w4|(apply w9;apply r0)|apply wa|apply w5
                  exact ⟨(by repeat (first | exact Fr.sub_nil _ | refine Fr.sub_cons rfl ?_)), AHeap.sub_refl _⟩
              | false =>
                repeat first|(apply x1;apply r0;apply r0)|(apply x5;apply r0)|apply w4|(apply w3;apply r0;apply r0)|(apply w9;apply r0)|apply wa|apply w5
                exact ⟨(by repeat (first | exact Fr.sub_nil _ | refine Fr.sub_cons rfl ?_)), AHeap.sub_refl _⟩
          | false =>
            repeat first|(apply x1;apply r0;apply r0)|(apply x5;apply r0)|(apply x9;apply r0)|(apply w3;apply r0;apply r0)
            refine rhas16_c (k := 1) rfl (by decide) hfl hB.b1 ?_
            cases z2 : hasF flags 2 with
            | true =>
              repeat first|(apply x1;apply r0;apply r0)|(apply x2;apply r0;(with_reducible assumption);apply r0)|(apply x5;apply r0)|(apply x9;apply r0)
              refine rcan1_c ht hc (by unfold in64; omega) ?_
              cases q2' : T.can c r.1.node 2 with
              | false => exact absurd (hcan.symm.trans (by unfold wantF; simp [z1, z2, q2'])) (by decide : ¬ true = false)
              | true =>
                repeat first|(apply x1;apply r0;apply r0)|(apply x5;apply r0)|apply w4|(apply w9;apply r0)|apply wa|apply w5
                exact ⟨(by repeat (first | exact Fr.sub_nil _ | refine Fr.sub_cons rfl ?_)), AHeap.sub_refl _⟩
            | false => exact absurd z0 (by rw [hB.ok, z1, z2]; simp)
        rintro F' H' ⟨hF, hH⟩
        refine AW_sub ?_ hF hH
        clear hF hH
        repeat first|(apply x1;apply r0;apply r0)|(apply x9;apply r0)|apply w6|apply w7
        refine rhas16_c (k := 4) rfl (by decide) hfl hB.b4 ?_
        cases z16 : hasF flags 16 with
        | false =>
          rw [z16, if_neg (show ¬ false = true by decide)] at hR
          rw [hR] at hK
          repeat first|apply w4|apply w6|(apply w9;apply r0)|apply wa|apply w5
          refine aw_prot [b6, b17] (allc (by with_reducible assumption) (allc (by with_reducible assumption) (allc0 _))) ?_
          refine aw_plan mixed (.take 0 (.take 1 (.take 2 (.one 3 (.take 4 (.take 5 .done)))))) (by kernel_rfl) ?_
          repeat first|(apply xst;apply r0;(with_reducible repeat first|assumption|apply pg|apply gq|apply nm1|exact nm0|exact mm0|apply mm1);apply r0)|apply w4|(apply y1;apply r0;apply r0)|apply y0|(apply y4;apply r0)|(apply y2;apply r0;apply r0;(with_reducible repeat first|assumption|apply pg|apply gq|apply nm1|exact nm0|exact mm0|apply mm1);apply r0)
          refine prot_done_put (by simp only [List.mem_cons,List.not_mem_nil,or_false,not_or]; first|exact (by first|assumption|exact n1 ‹_› ‹_›|exact n2 ‹_› ‹_›|exact n3 ‹_› ‹_›|exact n4 ‹_› ‹_›)|exact ⟨(by first|assumption|exact n1 ‹_› ‹_›|exact n2 ‹_› ‹_›|exact n3 ‹_› ‹_›|exact n4 ‹_› ‹_›),(by first|assumption|exact n1 ‹_› ‹_›|exact n2 ‹_› ‹_›|exact n3 ‹_› ‹_›|exact n4 ‹_› ‹_›)⟩|exact ⟨(by first|assumption|exact n1 ‹_› ‹_›|exact n2 ‹_› ‹_›|exact n3 ‹_› ‹_›|exact n4 ‹_› ‹_›),(by first|assumption|exact n1 ‹_› ‹_›|exact n2 ‹_› ‹_›|exact n3 ‹_› ‹_›|exact n4 ‹_› ‹_›),(by first|assumption|exact n1 ‹_› ‹_›|exact n2 ‹_› ‹_›|exact n3 ‹_› ‹_›|exact n4 ‹_› ‹_›)⟩) ?_
          repeat first|apply wd|apply w5
          exact rt3c (H' := H) rfl rfl (by apply q0) rfl (by rfl) rfl rfl (by exact Wk.three (wk_agg rfl)) (by repeat first|assumption|(apply su1;assumption)) (hK L ht)
        | true =>
          rw [z16, if_pos rfl] at hR
          rw [hR] at hK
          have hk1 : (T.at r.1.node).kind = 1 := by
            rcases nodeOk_kind0 hok with z | z | z
            · exact z
            · exact absurd z k2
            · exact absurd z k3
          have hwk := wrote_ok (c := c) (d := ⟨#[]⟩) hk1 hok (by decide)
          have hM : Tells (T.putE r.1.node (wrote c (T.at r.1.node) ⟨#[]⟩)).1 (L.set (r.1.node - 1).toNat (wrote c (T.at r.1.node) ⟨#[]⟩)) := by
            unfold Tab.putE
            rw [if_pos hh, if_pos hwk]
            exact tells_put ht hh (.inr hwk)
          have hrL := tells_rng ht hh
          have hmo := ok_file hok
          repeat first|apply w4|apply w6|(apply w8;apply r0)|apply w5
          refine aw_prot [b6, b7, b17, b19] (allc (by with_reducible assumption) (allc (by with_reducible assumption) (allc (by with_reducible assumption) (allc (by with_reducible assumption) (allc0 _))))) ?_
          refine aw_plan mixed (.take 0 (.take 1 (.take 2 (.take 3 (.take 4 (.take 7 (.take 8 (.one 5 (.one 6 (.one 9 (.take 10 (.take 11 .done)))))))))))) (by kernel_rfl) ?_
          repeat first|(apply x9;apply r0)|(apply y1;apply r0;apply r0)|(apply y4;apply r0)|(apply y2;apply r0;apply r0;(with_reducible repeat first|assumption|apply pg|exact mm0|apply mm1);apply r0)
          refine rwrote_c hc (by unfold in64; omega) ?_
          repeat first|(apply x9;apply r0)|apply w4|(apply y4;apply r0)
          refine rwith_c hrL (Nat.le_trans ht.rel.most (by decide)) ?_
          repeat first|(apply xst;apply r0;(with_reducible repeat first|assumption|apply gq|apply nm1|exact nm0);apply r0)|apply w4|(apply y1;apply r0;apply r0)|apply y0|(apply y4;apply r0)
          refine prot_done_put (by simp only [List.mem_cons, List.not_mem_nil, or_false, not_or]; exact ⟨by assumption, by assumption, n1217, n1219⟩) ?_
          repeat first|apply wd|apply w5|apply we
          exact rt3c (H' := H) rfl rfl (by apply q0) rfl (by rfl) rfl rfl (by exact Wk.three (wk_agg rfl)) (by repeat first|assumption|(apply su1;assumption)) (hK _ hM)
end Abs
end Go.Proofs.YtpifnlodilcgkaaGreat
