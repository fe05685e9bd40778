import Derived.Test.YtpifnlodilcgkaaXL
import Derived.Test.YtpifnlodilcgkaaZ3
set_option linter.unusedVariables false
namespace Go.Proofs.Ytpifnlodilcgkaa
namespace Abs
set_option linter.unusedSimpArgs false
set_option maxRecDepth 10000
set_option maxHeartbeats 2000000
attribute [local irreducible] AOps AW AP ACalls thenQ inBlk noGoto

/-! ### who may change what -/
def dropB (m b : Int) : Int := bitsR .andNot .i64 m b
theorem clear_c {b : Nat} {m bit : Int} {q : Bool} {H : AHeap} {K : AVal → AHeap → Prop} (h : H b = some (.cells [.i m])) (hK : K (.tup []) (if q = true then H.put b (.cells [.i (dropB m bit)]) else H)) :
    ACalls Try.prog 111 [.b q, .i bit, .ptr b 0] H K := by
  refine acalls_body Try.func111 rfl rfl rfl ?_
  cases q with
  | false =>
    repeat first|(apply x1;apply r0;apply r0)|apply w4|apply w6|apply w7|(apply w9;apply r0)|apply wa|apply w5
    exact rt0n rfl (AHeap.sub_refl _) hK
  | true =>
    repeat first|(apply x1;apply r0;apply r0)|(apply x2;apply r0;(with_reducible repeat exact q1 ‹_›);apply r0)|apply w4|apply w6|apply w7|(apply w8;apply r0)|apply w5
    refine s_bits rfl rfl rfl rfl ?_
    repeat first|(apply xst;apply r0;(with_reducible assumption);apply r0)|apply w4
    exact rt0n rfl (AHeap.sub_refl _) hK
theorem clearT_c {b : Nat} {m bit : Int} {H : AHeap} {K : AVal → AHeap → Prop} (h : H b = some (.cells [.i m])) (hK : K (.tup []) (H.put b (.cells [.i (dropB m bit)]))) :
    ACalls Try.prog 111 [.b true, .i bit, .ptr b 0] H K := clear_c h (by rw [if_pos rfl]; exact hK)
theorem clearF_c {b : Nat} {m bit : Int} {H : AHeap} {K : AVal → AHeap → Prop} (h : H b = some (.cells [.i m])) (hK : K (.tup []) H) :
    ACalls Try.prog 111 [.b false, .i bit, .ptr b 0] H K := clear_c h (by rw [if_neg (by decide)]; exact hK)
theorem and1 (p : Int) : bitsR .and .i64 p 1 = p % 2 := and_mask (k := 1) (by decide) rfl
def Cred.written (c : Cred) (kind mode : Int) : Int := if (c.root || !decide (kind = 1)) = true then mode % 4096
  else if clsBits (dropB (mode % 4096) 2048) 1 % 2 = 0 then dropB (mode % 4096) 2048 else dropB (dropB (mode % 4096) 2048) 1024
theorem written_c {c : Cred} (hc : c.small) {kind mode : Int} {H : AHeap} {K : AVal → AHeap → Prop} (hK : K (.i (c.written kind mode)) H) : ACalls Try.prog 83 [.agg (encCred c), .i kind, .i mode] H K := by
  refine acalls_body Try.func83 rfl rfl rfl ?_
  unfold Cred.written at hK
  repeat first|apply w6|apply w7
  refine s_box rfl rfl rfl (fun b3 hb3 => ?_); have hb := hb3; (try simp only [put_none_iff, prot_none_iff] at hb); (repeat obtain ⟨_, _, hb⟩ := hb)
  skip
  refine s_box rfl rfl rfl (fun b5 hb5 => ?_); have hb := hb5; (try simp only [put_none_iff, prot_none_iff] at hb); (repeat obtain ⟨_, _, hb⟩ := hb)
  repeat first|(apply x1;apply r0;apply r0)|(apply x2;apply r0;(apply q0);apply r0)|apply w4|apply w6|apply w7|apply w5
  refine s_bits rfl rfl rfl rfl ?_
  rw [and4095]
  repeat first|(apply gO;first|(apply x1;apply r0;apply r0)|(apply x2;apply r0;(with_reducible repeat first|assumption|apply q0|apply ps|apply q3);apply r0)|(apply xst;apply r0;(with_reducible repeat first|assumption|apply q0|apply ps|apply q3);apply r0)|(apply x9;apply r0)|apply w4)|(apply gW;first|apply w6|apply w7)|apply w5
  refine root_c ?_
  repeat first|(apply x1;apply r0;apply r0)|(apply xbs;apply r0)|(apply x9;apply r0)
  refine one_c (l := [c.root, !decide (kind = 1)]) (by simp) ?_
  rw [show [c.root, !decide (kind = 1)].any id = (c.root || !decide (kind = 1)) by simp]
  rcases hq : (c.root || !decide (kind = 1))
  · rw [hq, if_neg (by decide)] at hK
    repeat first|(apply x1;apply r0;apply r0)|apply w4|apply w6|apply w7|apply w5
    refine s_clo rfl rfl rfl (fkall rfl) ?_
    refine clearT_c (m := mode % 4096) (by apply get_eq;(focus apply ps);rfl) ?_
    repeat first|(apply gO;first|(apply x1;apply r0;apply r0)|(apply x2;apply r0;(apply q0);apply r0)|(apply x5;apply r0)|(apply x9;apply r0)|apply w4)|(apply gW;first|apply w6|apply w7)|apply w5
    refine mclass_c ?_
    repeat (apply x5;apply r0)
    refine s_bits rfl rfl rfl rfl ?_
    rw [and1]
    by_cases hz : clsBits (dropB (mode % 4096) 2048) 1 % 2 = 0
    · rw [if_pos hz] at hK
      rw [hz]
      repeat first|(apply x1;apply r0;apply r0)|(apply x5;apply r0)
      refine s_clo rfl rfl rfl (fkall rfl) ?_
      refine clearF_c (m := dropB (mode % 4096) 2048) (by apply get_eq;(focus apply ps);rfl) ?_
      repeat first|(apply x1;apply r0;apply r0)|(apply x2;apply r0;(apply q0);apply r0)|apply w4|apply w6|apply w7|apply wd|apply w5
      exact rt1 (H' := H) rfl rfl (.refl _) (by repeat first|exact s0|(apply su1;assumption)) hK
    · have hz1 : clsBits (dropB (mode % 4096) 2048) 1 % 2 = 1 := by omega
      rw [if_neg hz] at hK
      rw [hz1]
      repeat first|(apply x1;apply r0;apply r0)|(apply x5;apply r0)
      refine s_clo rfl rfl rfl (fkall rfl) ?_
      refine clearT_c (m := dropB (mode % 4096) 2048) (by apply get_eq;(focus apply ps);rfl) ?_
      repeat first|(apply x1;apply r0;apply r0)|(apply x2;apply r0;(apply q0);apply r0)|apply w4|apply w6|apply w7|apply wd|apply w5
      exact rt1 (H' := H) rfl rfl (.refl _) (by repeat first|exact s0|(apply su1;assumption)) hK
  · rw [hq, if_pos rfl] at hK
    repeat first|(apply x1;apply r0;apply r0)|apply w4|apply w6|apply w7|apply w5
    refine s_clo rfl rfl rfl (fkall rfl) ?_
    refine clearF_c (m := mode % 4096) (by apply get_eq;(focus apply ps);rfl) ?_
    repeat first|(apply x1;apply r0;apply r0)|apply w4|(apply w3;apply r0;apply r0)|apply w6|apply w7|apply w5
    refine s_clo rfl rfl rfl (fkall rfl) ?_
    refine clearF_c (m := mode % 4096) (by apply get_eq;(focus apply ps);rfl) ?_
    repeat first|(apply x1;apply r0;apply r0)|(apply x2;apply r0;(apply q0);apply r0)|apply w4|apply w6|apply w7|apply wd|apply w5
    exact rt1 (H' := H) rfl rfl (.refl _) (by repeat first|exact s0|(apply su1;assumption)) hK
end Abs
end Go.Proofs.Ytpifnlodilcgkaa
