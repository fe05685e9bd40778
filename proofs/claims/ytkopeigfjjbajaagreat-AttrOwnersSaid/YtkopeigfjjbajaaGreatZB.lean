import Derived.Test.YtkopeigfjjbajaaGreatZA
import Derived.Test.YtkopeigfjjbajaaGreatY2
set_option linter.unusedVariables false
namespace Go.Proofs.YtkopeigfjjbajaaGreat
namespace Abs
set_option linter.unusedSimpArgs false
set_option maxRecDepth 10000
set_option maxHeartbeats 2000000
attribute [local irreducible] AOps AW AP ACalls thenQ inBlk noGoto

/-! ### chapter 13: the document's example -/
def dfS : ByteArray := ⟨#[100, 47, 102]⟩
def exT1 : Tab := (exTab.chown exC1 dfS (-1) 1 true).2
def exT3 : Tab := (exT1.chmod exC1 ⟨#[115]⟩ 4095).2
theorem ex13_1 : (exTab.chown exC1 dfS (-1) 1 true).1 = 0 := by kernel_rfl
theorem ex13_2 : exT1.chown exC1 dfS 2 (-1) true = (1, exT1) := by kernel_rfl
theorem ex13_3 : (exT1.chmod exC1 ⟨#[115]⟩ 4095).1 = 0 := by kernel_rfl
theorem ex13_4 : exT3.has 3 = true := by kernel_rfl
theorem ex13_5 : (exT3.at 3).mode = 4095 := by kernel_rfl
theorem ex13_6 : (exT3.at 3).uid = 1 := by kernel_rfl
theorem exTab_tree : exTab.tree := build_tree (room := 9) (l := exRaws) (by rw [exTab_some])
theorem exT1_good : exT1.good := (chown_like exTab_good exC1 dfS (-1) 1 true).1
theorem exT1_tree : exT1.tree := (chown_like exTab_good exC1 dfS (-1) 1 true).2.tree exTab_tree
theorem exT3_good : exT3.good := (chmod_like exT1_good exT1_tree exC1 ⟨#[115]⟩ 4095).1
theorem awake13_c {H : AHeap} {K : AVal → AHeap → Prop} (hK : K (.b true) H) : ACalls Tryz.prog 29 [] H K := by
  refine acalls_body Tryz.func29 rfl rfl rfl ?_
  have hg := exTab_good
  repeat first|(apply gO;first|(apply x1;apply r0;apply r0)|apply w4)|(apply gW;first|apply w6|apply w7)|apply w5
  refine xbd (v := .agg (encRawO exRaw1 .full)) rfl ?_
  refine xbd (v := .agg (encRawO exRaw2 .full)) rfl ?_
  refine s_bsliceT tk rfl rfl rfl rfl rfl rfl (uni_bytes exRaw3.data) (by decide) (fun bx hx => ?_)
  refine s_csame (xs := encBytes exRaw3.data) tk rfl rfl rfl rfl (put_same _ _ _) ?_
  rw [del_put_none hx]
  refine xbd (v := .agg (encRawO exRaw3 .no)) rfl ?_
  refine xbd (v := .agg (encRawO exRaw4 .full)) rfl ?_
  refine xbs (v := .sl [encRawO exRaw1 .full, encRawO exRaw2 .full, encRawO exRaw3 .no, encRawO exRaw4 .full] .full) rfl ?_
  apply x9; apply r0
  refine ACalls.wk (build_c (room := 9) (l := exRaws) (o := .no) (by decide) exRaws_few (fun h => by rw [exTab_some] at h; cases h) (fun T t hT ht => ?_)) (.pair (.refl _) (wk_rows rfl))
  rw [exTab_some] at hT ⊢
  cases hT
  repeat first|(apply gO;first|(apply x1;apply r0;apply r0)|apply w4)|(apply gW;first|apply w6|apply w7)|apply w5
  refine xbd (v := .agg [.i 1, .i 1, .sl [] .full]) rfl ?_
  refine s_alloc tk rfl rfl rfl (fun b4 hb4 => ?_); have hb := hb4; (try simp only [put_none_iff, prot_none_iff] at hb); (repeat obtain ⟨_, _, hb⟩ := hb)
  (apply xst;apply r0;(apply ps);apply r0)
  rw [put_put]
  refine aops_wk (ds := encCred exC1) rfl ?_
  repeat first|(apply x1;apply r0;apply r0)|(apply x2;apply r0;(apply q0);apply r0)|(apply x9;apply r0)|apply w4|apply w6|apply w7|apply w5
  refine chown_c (path := dfS) hg exC1_small (by with_reducible repeat first|assumption|apply ps|apply gp) ?_
  rw [ex13_1, show (exTab.chown exC1 dfS (-1) 1 true).2 = exT1 from rfl]
  repeat first|(apply x1;apply r0;apply r0)|(apply x2;apply r0;(with_reducible repeat first|assumption|apply q0|apply q3);apply r0)|(apply x9;apply r0)|apply w4|apply w6|apply w7|apply w5
  refine chown_c (path := dfS) exT1_good exC1_small (by apply ps) ?_
  rw [ex13_2]
  repeat first|(apply x1;apply r0;apply r0)|(apply x2;apply r0;(with_reducible repeat first|assumption|apply q0|apply q3);apply r0)|(apply x9;apply r0)|apply w4|apply w6|apply w7|apply w5
  refine chmod_c exT1_good exT1_tree exC1_small (by apply ps) ?_
  rw [ex13_3, show (exT1.chmod exC1 ⟨#[115]⟩ 4095).2 = exT3 from rfl]
  repeat first|(apply x1;apply r0;apply r0)|(apply x9;apply r0)|apply w4|apply w6|apply w7|apply w5
  refine tget_c exT3_good.wf (by apply q0) ?_
  rw [ex13_4]
  repeat (apply x1;apply r0;apply r0)
  refine s_alloc tk rfl rfl rfl (fun b8 hb8 => ?_); have hb := hb8; (try simp only [put_none_iff, prot_none_iff] at hb); (repeat obtain ⟨_, _, hb⟩ := hb)
  repeat first|(apply gO;first|(apply x1;apply r0;apply r0)|(apply x2;apply r0;(with_reducible repeat first|apply q0|apply ps);apply r0)|(apply xst;apply r0;(with_reducible repeat first|apply q0|apply ps);apply r0)|(apply x5;apply r0)|apply w4)|(apply gW;first|apply w6|apply w7)|apply w5
  refine s_gsplit rfl rfl (fun e1 => ?_) (fun e1 => ?_)<;>first|replace e1:=of_decide_eq_true e1|replace e1:=of_decide_eq_false e1
  case refine_2 => exact absurd ex13_5 e1
  repeat first|(apply x1;apply r0;apply r0)|(apply x2;apply r0;(apply q0);apply r0)|(apply x5;apply r0)|apply w4|apply wd|apply w5
  refine rt1 (H' := H) rfl rfl (.refl _) (by repeat first|exact s0|(apply su1;assumption)) ?_
  rw [decide_eq_true ex13_6]
  exact hK
/-! ### AttrRoot -/
end Abs
end Go.Proofs.YtkopeigfjjbajaaGreat
