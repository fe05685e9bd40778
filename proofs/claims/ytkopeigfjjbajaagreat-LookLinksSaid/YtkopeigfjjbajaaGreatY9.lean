import Derived.Test.YtkopeigfjjbajaaGreatXM
import Derived.Test.YtkopeigfjjbajaaGreatY2
import Derived.Test.YtkopeigfjjbajaaGreatM7
set_option linter.unusedVariables false
namespace Go.Proofs.YtkopeigfjjbajaaGreat
namespace Abs
set_option linter.unusedSimpArgs false
set_option maxRecDepth 10000
set_option maxHeartbeats 2000000
attribute [local irreducible] AOps AW AP ACalls thenQ inBlk noGoto

/-! ### chapter 12: the document's example -/
theorem ex12_1 : exTab.look exC1 ⟨#[115]⟩ true = (⟨3, 1, 420, 1, 1, 1, 2⟩, 0) := by kernel_rfl
theorem ex12_2 : exTab.look exC1 ⟨#[115]⟩ false = (⟨4, 3, 511, 0, 0, 1, 3⟩, 0) := by kernel_rfl
theorem ex12_3 : exTab.readlink exC1 ⟨#[100]⟩ = (⟨#[]⟩, 22) := by kernel_rfl
theorem ex12_4 : exTab.readlink exC1 ⟨#[115]⟩ = (⟨#[100, 47, 102]⟩, 0) := by kernel_rfl
theorem ex12_5 : exTab.list exC1 ⟨#[47]⟩ = ([⟨#[100]⟩, ⟨#[115]⟩], 0) := by
  have h1 : exTab.look exC1 ⟨#[47]⟩ true = (⟨1, 2, 493, 0, 0, 0, 2⟩, 0) := by kernel_rfl
  have h2 : exTab.can exC1 1 4 = true := by kernel_rfl
  have h3 : entNames (exTab.at 1).ents = [⟨#[100]⟩, ⟨#[115]⟩] := by kernel_rfl
  have h4 : rising (exTab.at 1).ents = true := by kernel_rfl
  unfold Tab.list
  rw [h1, if_neg (by decide), if_neg (by decide), if_neg (by rw [h2]; decide), names_sorted h4, h3]
theorem awake12_c {H : AHeap} {K : AVal → AHeap → Prop} (hK : K (.b true) H) : ACalls Tryz.prog 10 [] H K := by
  refine acalls_body Tryz.func10 rfl rfl rfl ?_
  have hg := exTab_good
  repeat first|(apply gO;first|(apply x1;apply r0;apply r0)|apply w4)|(apply gW;first|apply w6|apply w7)|apply w5
  refine xbd (v := .agg (encRawO exRaw1 .full)) rfl ?_
  refine xbd (v := .agg (encRawO exRaw2 .full)) rfl ?_
  refine s_bsliceT tk rfl rfl rfl rfl rfl rfl (uni_bytes exRaw3.data) (by decide) (fun bx hx => ?_)
  refine s_csame (xs := encBytes exRaw3.data) tk rfl rfl rfl rfl (put_same _ _ _) ?_
  rw [del_put_none hx]
  refine xbd (v := .agg (encRawO exRaw3 .no)) rfl ?_
  refine xbd (v := .agg (encRawO exRaw4 .full)) rfl ?_
  refine xbs (v := .sl [encRawO exRaw1 .full, encRawO exRaw2 .full, encRawO exRaw3 .no, encRawO exRaw4 .full] .full) rfl ?_
  apply x9; apply r0
  refine ACalls.wk (build_c (room := 9) (l := exRaws) (o := .no) (by decide) exRaws_few (fun h => by rw [exTab_some] at h; cases h) (fun T t hT ht => ?_)) (.pair (.refl _) (wk_rows rfl))
  rw [exTab_some] at hT ⊢
  cases hT
  repeat first|(apply gO;first|(apply x1;apply r0;apply r0)|apply w4)|(apply gW;first|apply w6|apply w7)|apply w5
  refine xbd (v := .agg [.i 1, .i 1, .sl [] .full]) rfl ?_
  refine s_alloc tk rfl rfl rfl (fun b4 hb4 => ?_); have hb := hb4; (try simp only [put_none_iff, prot_none_iff] at hb); (repeat obtain ⟨_, _, hb⟩ := hb)
  (apply xst;apply r0;(apply ps);apply r0)
  rw [put_put]
  refine aops_wk (ds := encCred exC1) rfl ?_
  repeat first|(apply x1;apply r0;apply r0)|(apply x2;apply r0;(apply q0);apply r0)|(apply x9;apply r0)|apply w4|apply w6|apply w7|apply w5
  refine lstat_c hg exC1_small (by with_reducible repeat first|assumption|apply q0|apply q3) ?_
  rw [ex12_1]
  repeat (apply x1;apply r0;apply r0)
  refine s_alloc tk rfl rfl rfl (fun b5 hb5 => ?_); have hb := hb5; (try simp only [put_none_iff, prot_none_iff] at hb); (repeat obtain ⟨_, _, hb⟩ := hb)
  repeat first|(apply gO;first|(apply x1;apply r0;apply r0)|(apply x2;apply r0;(with_reducible repeat first|assumption|apply q0|apply ps|apply q3);apply r0)|(apply xst;apply r0;(with_reducible repeat first|assumption|apply q0|apply ps|apply q3);apply r0)|(apply x9;apply r0)|apply w4)|(apply gW;first|apply w6|apply w7)|apply w5
  refine llstat_c hg exC1_small (by with_reducible repeat first|assumption|apply q0|apply q3) ?_
  rw [ex12_2]
  repeat (apply x1;apply r0;apply r0)
  refine s_alloc tk rfl rfl rfl (fun b7 hb7 => ?_); have hb := hb7; (try simp only [put_none_iff, prot_none_iff] at hb); (repeat obtain ⟨_, _, hb⟩ := hb)
  repeat first|(apply gO;first|(apply x1;apply r0;apply r0)|(apply x2;apply r0;(with_reducible repeat first|assumption|apply q0|apply ps|apply q3);apply r0)|(apply xst;apply r0;(with_reducible repeat first|assumption|apply q0|apply ps|apply q3);apply r0)|(apply x9;apply r0)|apply w4)|(apply gW;first|apply w6|apply w7)|apply w5
  refine readlink_c hg exC1_small (by with_reducible repeat first|assumption|apply q0|apply q3) ?_
  rw [ex12_3]
  repeat first|(apply x1;apply r0;apply r0)|(apply x2;apply r0;(with_reducible repeat first|assumption|apply q0|apply q3);apply r0)|(apply x9;apply r0)|apply w4|apply w6|apply w7|apply w5
  refine readlink_c hg exC1_small (by with_reducible repeat first|assumption|apply q0|apply q3) ?_
  rw [ex12_4]
  repeat first|(apply x1;apply r0;apply r0)|(apply x2;apply r0;(with_reducible repeat first|assumption|apply q0|apply q3);apply r0)|(apply x9;apply r0)|apply w4|apply w6|apply w7|apply w5
  refine list_c hg exC1_small (by with_reducible repeat first|assumption|apply q0|apply q3) (fun o => ?_)
  rw [ex12_5]
  repeat first|(apply gO;first|(apply x1;apply r0;apply r0)|(apply x2;apply r0;(with_reducible repeat first|assumption|apply q0|apply q3);apply r0)|(apply x5;apply r0)|(apply xbs;apply r0)|(apply x9;apply r0)|apply w4)|(apply gW;first|apply w6|apply w7)|apply w5
  refine rsames_c (a := [⟨#[100]⟩, ⟨#[115]⟩]) (b := [⟨#[100]⟩, ⟨#[115]⟩]) (by decide) ?_
  rw [decide_eq_true rfl]
  repeat first|(apply x1;apply r0;apply r0)|apply w4|apply wd|apply w5
  exact rt1 (H' := H) rfl rfl (.refl _) (by repeat first|exact s0|(apply su1;assumption)) hK
end Abs
end Go.Proofs.YtkopeigfjjbajaaGreat
