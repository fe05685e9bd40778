import Derived.Test.YtpifnlodilcgkaaGreatHG
import Derived.Test.YtpifnlodilcgkaaGreatHC
import Derived.Test.YtpifnlodilcgkaaGreatGE
import Derived.Test.YtpifnlodilcgkaaGreatXQ
set_option linter.unusedVariables false
namespace Go.Proofs.YtpifnlodilcgkaaGreat
namespace Abs
/-! ### ref16: plain part -/
structure BitsF (flags : Int) : Prop where
  b0 : hasF flags 1 = decide (flags / 2 ^ 0 % 2 = 1)
  b1 : hasF flags 2 = decide (flags / 2 ^ 1 % 2 = 1)
  b2 : hasF flags 4 = decide (flags / 2 ^ 2 % 2 = 1)
  b3 : hasF flags 8 = decide (flags / 2 ^ 3 % 2 = 1)
  b4 : hasF flags 16 = decide (flags / 2 ^ 4 % 2 = 1)
  b5 : hasF flags 32 = decide (flags / 2 ^ 5 % 2 = 1)
  m40 : hasF flags 40 = (hasF flags 32 || hasF flags 8)
  ok : flagsOk flags = ((hasF flags 1 || hasF flags 2) && ((!hasF flags 16 || hasF flags 2) && (!hasF flags 8 || hasF flags 4)))
end Abs
end Go.Proofs.YtpifnlodilcgkaaGreat

set_option linter.unusedVariables false
namespace Go.Proofs.YtpifnlodilcgkaaGreat
namespace Abs
set_option linter.unusedSimpArgs false
set_option maxRecDepth 10000
set_option maxHeartbeats 2000000
attribute [local irreducible] AOps AW AP ACalls thenQ inBlk noGoto

/-! ### package gaolerref16 -/
theorem rwrote_c {c : Cred} (hc : c.small) {n : Node} (hm : in64 n.mode) {d : ByteArray} {H : AHeap} {K : AVal → AHeap → Prop} (hK : K (.agg (encM (wrote c n d))) H) : ACalls Tryz.prog 24 [.agg (encCred c), .agg (encM n), .s d] H K := by
  refine acalls_body Tryz.func24 rfl rfl rfl ?_
  repeat first|apply w6|apply w7
  refine s_box rfl rfl rfl (fun b3 hb3 => ?_); have hb := hb3; (try simp only [put_none_iff, prot_none_iff] at hb); (repeat obtain ⟨_, _, hb⟩ := hb)
  skip
  refine s_box rfl rfl rfl (fun b4 hb4 => ?_); have hb := hb4; (try simp only [put_none_iff, prot_none_iff] at hb); (repeat obtain ⟨_, _, hb⟩ := hb)
  skip
  refine s_alloc tk rfl rfl rfl (fun b6 hb6 => ?_); have hb := hb6; (try simp only [put_none_iff, prot_none_iff] at hb); (repeat obtain ⟨_, _, hb⟩ := hb)
  repeat first|(apply gO;first|(apply x1;apply r0;apply r0)|(apply x2;apply r0;(with_reducible repeat first|assumption|apply q0|apply ps|apply q3|apply gp);apply r0)|(apply xst;apply r0;(with_reducible repeat first|assumption|apply q0|apply ps|apply q3|apply gp);apply r0)|(apply x9;apply r0)|apply w4)|(apply gW;first|apply w6|apply w7)|apply w5
  refine rwritten_c hc hm ?_
  repeat first|(apply gO;first|(apply x1;apply r0;apply r0)|(apply x2;apply r0;(with_reducible repeat first|assumption|apply q0|apply ps|apply gp);apply r0)|(apply xst;apply r0;(with_reducible repeat first|assumption|apply q0|apply ps|apply gp);apply r0)|apply w4)|(apply gW;first|apply w6|apply w7|apply wd)|apply w5
  exact rt1c (H' := H) rfl rfl (by apply q0) rfl (by rfl) (by exact wk_agg rfl) (by repeat first|exact s0|(apply su1;assumption)) hK
end Abs
end Go.Proofs.YtpifnlodilcgkaaGreat
