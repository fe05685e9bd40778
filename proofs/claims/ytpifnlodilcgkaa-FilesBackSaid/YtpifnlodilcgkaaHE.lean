import Derived.Test.YtpifnlodilcgkaaHC
import Derived.Test.YtpifnlodilcgkaaHD
import Derived.Test.YtpifnlodilcgkaaY2
set_option linter.unusedVariables false
namespace Go.Proofs.Ytpifnlodilcgkaa
namespace Abs
set_option linter.unusedSimpArgs false
set_option maxRecDepth 10000
set_option maxHeartbeats 2000000
attribute [local irreducible] AOps AW AP ACalls thenQ inBlk noGoto

/-! ### chapter 16: the document's examples -/
def ex16T2 : Tab := (exTab.openF exC1 0 (exTab.resolve exC1 ⟨#[115]⟩ (!hasF 19 40)) 19 0).1
def ex16T3 : Tab := (ex16T2.writeF exC1 3 0 ⟨#[120]⟩).1
def ex16T4 : Tab := (ex16T3.writeF exC1 3 2 ⟨#[97, 98]⟩).1
theorem ex16_1 : exTab.openF exC1 0 (exTab.resolve exC1 ⟨#[100, 47, 102]⟩ (!hasF 14 40)) 14 0 = (exTab, 0, 17) := by kernel_rfl
theorem ex16_2 : (exTab.openF exC1 0 (exTab.resolve exC1 ⟨#[115]⟩ (!hasF 19 40)) 19 0).2 = (3, 0) := by kernel_rfl
theorem ex16_3 : (ex16T2.writeF exC1 3 0 ⟨#[120]⟩).2 = 0 := by kernel_rfl
theorem ex16_4 : (ex16T3.writeF exC1 3 2 ⟨#[97, 98]⟩).2 = 0 := by kernel_rfl
theorem ex16_5 : ex16T4.readF 3 0 9 = (⟨#[120, 0, 97, 98]⟩, 0) := by kernel_rfl
theorem ex16_6 : ex16T4.readF 1 0 9 = (⟨#[]⟩, 9) := by kernel_rfl
theorem ex16T2_good : ex16T2.good := good_openF exTab_good _ _ _ _ _
theorem ex16T3_good : ex16T3.good := good_writeF ex16T2_good _ _ _ _
theorem ex16T4_good : ex16T4.good := good_writeF ex16T3_good _ _ _ _
theorem awake16_c {H : AHeap} {K : AVal → AHeap → Prop} (hK : K (.b true) H) : ACalls Try.prog 11 [] H K := by
  refine acalls_body Try.func11 rfl rfl rfl ?_
  have hg := exTab_good
  repeat first|(apply gO;first|(apply x1;apply r0;apply r0)|apply w4)|(apply gW;first|apply w6|apply w7)|apply w5
  refine xbd (v := .agg (encRawO exRaw1 .full)) rfl ?_
  refine xbd (v := .agg (encRawO exRaw2 .full)) rfl ?_
  refine s_bsliceT tk rfl rfl rfl rfl rfl rfl (uni_bytes exRaw3.data) (by decide) (fun bx hx => ?_)
  refine s_csame (xs := encBytes exRaw3.data) tk rfl rfl rfl rfl (put_same _ _ _) ?_
  rw [del_put_none hx]
  refine xbd (v := .agg (encRawO exRaw3 .no)) rfl ?_
  refine xbd (v := .agg (encRawO exRaw4 .full)) rfl ?_
  refine xbs (v := .sl [encRawO exRaw1 .full, encRawO exRaw2 .full, encRawO exRaw3 .no, encRawO exRaw4 .full] .full) rfl ?_
  apply x9; apply r0
  refine ACalls.wk (build_c (room := 9) (l := exRaws) (o := .no) (by decide) exRaws_few (fun h => by rw [exTab_some] at h; cases h) (fun T t hT ht => ?_)) (.pair (.refl _) (wk_rows rfl))
  rw [exTab_some] at hT ⊢
  cases hT
  repeat first|(apply gO;first|(apply x1;apply r0;apply r0)|apply w4)|(apply gW;first|apply w6|apply w7)|apply w5
  refine xbd (v := .agg [.i 1, .i 1, .sl [] .full]) rfl ?_
  refine s_alloc tk rfl rfl rfl (fun b4 hb4 => ?_); have hb := hb4; (try simp only [put_none_iff, prot_none_iff] at hb); (repeat obtain ⟨_, _, hb⟩ := hb)
  (apply xst;apply r0;(apply ps);apply r0)
  rw [put_put]
  refine aops_wk (ds := encCred exC1) rfl ?_
  repeat first|(apply x1;apply r0;apply r0)|(apply x2;apply r0;(apply q0);apply r0)|(apply x9;apply r0)|apply w4|apply w6|apply w7|apply w5
  refine open_c (path := ⟨#[100, 47, 102]⟩) hg exC1_small (by with_reducible repeat first|assumption|apply ps|apply gp) ?_
  rw [ex16_1]
  repeat first|(apply x1;apply r0;apply r0)|(apply x2;apply r0;(with_reducible repeat first|assumption|apply q0|apply q3);apply r0)|(apply x9;apply r0)|apply w4|apply w6|apply w7|apply w5
  refine open_c (path := ⟨#[115]⟩) hg exC1_small (by apply ps) ?_
  rw [ex16_2, show (exTab.openF exC1 0 (exTab.resolve exC1 ⟨#[115]⟩ (!hasF 19 40)) 19 0).1 = ex16T2 from rfl]
  repeat first|(apply gO;first|(apply x1;apply r0;apply r0)|apply w4)|(apply gW;first|apply w6|apply w7)|apply w5
  refine x2 rfl (by with_reducible repeat first|assumption|apply q0|apply q3) rfl ?_
  repeat first|(apply gO;first|(apply x1;apply r0;apply r0)|apply w4)|(apply gW;first|apply w6|apply w7)|apply w5
  refine s_bsliceT tk rfl rfl rfl rfl rfl rfl (uni_bytes ⟨#[120]⟩) (by decide) (fun bx hx => ?_)
  refine s_csame (xs := encBytes ⟨#[120]⟩) tk rfl rfl rfl rfl (put_same _ _ _) ?_
  rw [del_put_none hx]
  repeat (apply x9;apply r0)
  refine writeAt_c (b := ⟨#[120]⟩) ex16T2_good exC1_small (by decide) (by apply ps) ?_
  rw [ex16_3, show (ex16T2.writeF exC1 3 0 ⟨#[120]⟩).1 = ex16T3 from rfl]
  repeat first|(apply gO;first|(apply x1;apply r0;apply r0)|apply w4)|(apply gW;first|apply w6|apply w7)|apply w5
  refine x2 rfl (by with_reducible repeat first|assumption|apply q0|apply q3) rfl ?_
  repeat first|(apply gO;first|(apply x1;apply r0;apply r0)|apply w4)|(apply gW;first|apply w6|apply w7)|apply w5
  refine s_bsliceT tk rfl rfl rfl rfl rfl rfl (uni_bytes ⟨#[97, 98]⟩) (by decide) (fun by_ hy => ?_)
  refine s_csame (xs := encBytes ⟨#[97, 98]⟩) tk rfl rfl rfl rfl (put_same _ _ _) ?_
  rw [del_put_none hy]
  repeat (apply x9;apply r0)
  refine writeAt_c (b := ⟨#[97, 98]⟩) ex16T3_good exC1_small (by decide) (by apply ps) ?_
  rw [ex16_4, show (ex16T3.writeF exC1 3 2 ⟨#[97, 98]⟩).1 = ex16T4 from rfl]
  repeat first|(apply x1;apply r0;apply r0)|(apply x9;apply r0)|apply w4|apply w6|apply w7|apply w5
  refine readAt_c ex16T4_good (by apply q0) ?_
  rw [ex16_5]
  repeat first|(apply x1;apply r0;apply r0)|(apply x9;apply r0)|apply w4|apply w6|apply w7|apply w5
  refine readAt_c ex16T4_good (by apply q0) ?_
  rw [ex16_6]
  repeat first|(apply x1;apply r0;apply r0)|(apply x5;apply r0)|apply w4|apply w6|apply w7|apply w5
  refine s_str (s := ⟨#[120, 0, 97, 98]⟩) tk rfl rfl rfl rfl rfl ?_
  repeat first|(apply x1;apply r0;apply r0)|(apply x5;apply r0)|apply w4|apply wd|apply w5
  exact rt1 (H' := H) rfl rfl (.refl _) (by repeat first|exact s0|(apply su1;assumption)) hK
end Abs
end Go.Proofs.Ytpifnlodilcgkaa
