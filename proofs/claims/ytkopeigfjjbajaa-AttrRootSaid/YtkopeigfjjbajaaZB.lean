import Derived.Test.YtkopeigfjjbajaaZA
import Derived.Test.YtkopeigfjjbajaaY2
set_option linter.unusedVariables false
namespace Go.Proofs.Ytkopeigfjjbajaa
namespace Abs
set_option linter.unusedSimpArgs false
set_option maxRecDepth 10000
set_option maxHeartbeats 2000000
attribute [local irreducible] AOps AW AP ACalls thenQ inBlk noGoto

/-! ### chapter 13: the document's example -/
def dfS : ByteArray := ⟨#[100, 47, 102]⟩
def exT1 : Tab := (exTab.chown exC1 dfS (-1) 1 true).2
def exT3 : Tab := (exT1.chmod exC1 ⟨#[115]⟩ 4095).2
theorem ex13_1 : (exTab.chown exC1 dfS (-1) 1 true).1 = 0 := by kernel_rfl
theorem ex13_2 : exT1.chown exC1 dfS 2 (-1) true = (1, exT1) := by kernel_rfl
theorem ex13_3 : (exT1.chmod exC1 ⟨#[115]⟩ 4095).1 = 0 := by kernel_rfl
theorem ex13_4 : exT3.has 3 = true := by kernel_rfl
theorem ex13_5 : (exT3.at 3).mode = 4095 := by kernel_rfl
theorem ex13_6 : (exT3.at 3).uid = 1 := by kernel_rfl
theorem exTab_tree : exTab.tree := build_tree (room := 9) (l := exRaws) (by rw [exTab_some])
theorem exT1_good : exT1.good := (chown_like exTab_good exC1 dfS (-1) 1 true).1
theorem exT1_tree : exT1.tree := (chown_like exTab_good exC1 dfS (-1) 1 true).2.tree exTab_tree
theorem exT3_good : exT3.good := (chmod_like exT1_good exT1_tree exC1 ⟨#[115]⟩ 4095).1
theorem awake13_c {H : AHeap} {K : AVal → AHeap → Prop} (hK : K (.b true) H) : ACalls Try.prog 7 [] H K := by
  refine acalls_body Try.func7 rfl rfl rfl ?_
  have hg := exTab_good
  repeat first|(apply gO;first|(apply x1;apply r0;apply r0)|apply w4)|(apply gW;first|apply w6|apply w7)|apply w5
  refine xbd (v := .agg (encRawO exRaw1 .full)) rfl ?_
  refine xbd (v := .agg (encRawO exRaw2 .full)) rfl ?_
  refine s_bsliceT tk rfl rfl rfl rfl rfl rfl (uni_bytes exRaw3.data) (by decide) (fun bx hx => ?_)
  refine s_csame (xs := encBytes exRaw3.data) tk rfl rfl rfl rfl (put_same _ _ _) ?_
  rw [del_put_none hx]
  refine xbd (v := .agg (encRawO exRaw3 .no)) rfl ?_
  refine xbd (v := .agg (encRawO exRaw4 .full)) rfl ?_
  refine xbs (v := .sl [encRawO exRaw1 .full, encRawO exRaw2 .full, encRawO exRaw3 .no, encRawO exRaw4 .full] .full) rfl ?_
  apply x9; apply r0
  refine ACalls.wk (build_c (room := 9) (l := exRaws) (o := .no) (by decide) exRaws_few (fun h => by rw [exTab_some] at h; cases h) (fun T t hT ht => ?_)) (.pair (.refl _) (wk_rows rfl))
  rw [exTab_some] at hT ⊢
  cases hT
  repeat first|(apply gO;first|(apply x1;apply r0;apply r0)|apply w4)|(apply gW;first|apply w6|apply w7)|apply w5
  refine xbd (v := .agg [.i 1, .i 1, .sl [] .full]) rfl ?_
  refine s_alloc tk rfl rfl rfl (fun b4 hb4 => ?_); have hb := hb4; (try simp only [put_none_iff, prot_none_iff] at hb); (repeat obtain ⟨_, _, hb⟩ := hb)
  (apply xst;apply r0;(apply ps);apply r0)
  rw [put_put]
  refine aops_wk (ds := encCred exC1) rfl ?_
  repeat first|(apply x1;apply r0;apply r0)|(apply x2;apply r0;(apply q0);apply r0)|(apply x9;apply r0)|apply w4|apply w6|apply w7|apply w5
  refine chown_c (path := dfS) hg exC1_small (by with_reducible repeat first|assumption|apply ps|apply gp) ?_
  rw [ex13_1, show (exTab.chown exC1 dfS (-1) 1 true).2 = exT1 from rfl]
  repeat first|(apply x1;apply r0;apply r0)|(apply x2;apply r0;(with_reducible repeat first|assumption|apply q0|apply q3);apply r0)|(apply x9;apply r0)|apply w4|apply w6|apply w7|apply w5
  refine chown_c (path := dfS) exT1_good exC1_small (by apply ps) ?_
  rw [ex13_2]
  repeat first|(apply x1;apply r0;apply r0)|(apply x2;apply r0;(with_reducible repeat first|assumption|apply q0|apply q3);apply r0)|(apply x9;apply r0)|apply w4|apply w6|apply w7|apply w5
  refine chmod_c exT1_good exT1_tree exC1_small (by apply ps) ?_
  rw [ex13_3, show (exT1.chmod exC1 ⟨#[115]⟩ 4095).2 = exT3 from rfl]
  repeat first|(apply x1;apply r0;apply r0)|(apply x9;apply r0)|apply w4|apply w6|apply w7|apply w5
  refine tget_c exT3_good.wf (by apply q0) ?_
  rw [ex13_4]
  repeat (apply x1;apply r0;apply r0)
  refine s_alloc tk rfl rfl rfl (fun b8 hb8 => ?_); have hb := hb8; (try simp only [put_none_iff, prot_none_iff] at hb); (repeat obtain ⟨_, _, hb⟩ := hb)
  repeat first|(apply gO;first|(apply x1;apply r0;apply r0)|(apply x2;apply r0;(with_reducible repeat first|apply q0|apply ps);apply r0)|(apply xst;apply r0;(with_reducible repeat first|apply q0|apply ps);apply r0)|(apply x5;apply r0)|apply w4)|(apply gW;first|apply w6|apply w7)|apply w5
  refine s_gsplit rfl rfl (fun e1 => ?_) (fun e1 => ?_)<;>first|replace e1:=of_decide_eq_true e1|replace e1:=of_decide_eq_false e1
  case refine_2 => exact absurd ex13_5 e1
  repeat first|(apply x1;apply r0;apply r0)|(apply x2;apply r0;(apply q0);apply r0)|(apply x5;apply r0)|apply w4|apply wd|apply w5
  refine rt1 (H' := H) rfl rfl (.refl _) (by repeat first|exact s0|(apply su1;assumption)) ?_
  rw [decide_eq_true ex13_6]
  exact hK
/-! ### AttrRoot -/
theorem attrRoot_c {room : Int} {l : List Raw} (hl : l.length ≤ 9223372036854775807) {path : ByteArray} {mo u g : Int} (hmo : 0 ≤ mo ∧ mo ≤ 65535) (hu : 0 ≤ u ∧ u ≤ 65535) (hgi : 0 ≤ g ∧ g ≤ 65535) {H : AHeap} {K : AVal → AHeap → Prop} (hK : K (.b true) H) :
    ACalls Try.prog 6 [.i room, .sl (encRaws l) .no, .s path, .sc (.int .u16 mo), .sc (.int .u16 u), .sc (.int .u16 g)] H K := by
  refine acalls_body Try.func6 rfl rfl rfl ?_
  repeat first|(apply x1;apply r0;apply r0)|(apply x9;apply r0)|apply w4|apply w6|apply w7|apply w5
  refine awake13_c ?_
  repeat first|(apply gO;first|(apply x1;apply r0;apply r0)|(apply xbd;apply r0)|apply w4)|(apply gW;first|apply w6|apply w7|(apply w9;apply r0)|apply wa)|apply w5
  refine s_alloc tk rfl rfl rfl (fun b14 hb14 => ?_); have hb := hb14; (try simp only [put_none_iff, prot_none_iff] at hb); (repeat obtain ⟨_, _, hb⟩ := hb)
  (apply xst;apply r0;(apply ps);apply r0)
  rw [put_put]
  refine aops_wk (ds := encCred rootC) rfl ?_
  repeat first|(apply x1;apply r0;apply r0)|(apply x2;apply r0;(apply q0);apply r0)|(apply x9;apply r0)|apply w4|apply w6|apply w7|apply w5
  refine built13_c (c := rootC) hl ?_ (fun T t hB ht => ?_)
  · repeat first|(apply gO;first|(apply x1;apply r0;apply r0)|apply w4|(apply w3;apply r0;apply r0))|(apply gW;first|apply w6|apply w7|(apply w8;apply r0)|apply wd)|apply w5|apply we
    exact rt1 (H' := H) rfl rfl (.refl _) (by repeat first|exact s0|(apply su1;assumption)) hK
  have hg := hB.good
  have hc := hB.small
  have htr := build_tree hB.tree
  have nb7 : b14 ≠ t := by
    have := (put_none_iff.1 ht)
    exact this.2.1
  have ht' : H t = none := (put_none_iff.1 ht).2.2
  repeat first|(apply x1;apply r0;apply r0)|(apply x5;apply r0)|apply w4|apply w6|apply w7|apply w5
  refine aw_cond rfl (fun g1 => ?_) (fun g1 => ?_)<;>first|replace g1:=of_decide_eq_true g1|replace g1:=of_decide_eq_false g1
  · repeat first|(apply x1;apply r0;apply r0)|apply w4|apply w6|apply w7|apply wd|apply w5|apply we
    exact rt1 (H' := H) rfl rfl (.refl _) (by repeat first|exact s0|(apply su1;assumption)) hK
  repeat first|(apply x1;apply r0;apply r0)|(apply x2;apply r0;(with_reducible repeat first|assumption|apply q0|apply q3);apply r0)|(apply x9;apply r0)|apply w6|apply w7|apply wa|apply w5
  refine lstat_c hg hc (by apply q0) ?_
  repeat (apply x1;apply r0;apply r0)
  refine s_alloc tk rfl rfl rfl (fun b17 hb17 => ?_); have hb := hb17; (try simp only [put_none_iff, prot_none_iff] at hb); (repeat obtain ⟨_, _, hb⟩ := hb)
  repeat first|(apply x1;apply r0;apply r0)|(apply xst;apply r0;(apply ps);apply r0)|apply w4|apply w6|apply w7|apply w5
  refine s_rem rfl rfl rfl (by decide) hmo.1 ?_
  skip
  refine s_conv tk rfl rfl rfl rfl (wrap_id ⟨by omega, by omega⟩) ?_
  have hm : 0 ≤ mo % 4096 ∧ mo % 4096 ≤ 4095 := by omega
  generalize mo % 4096 = m at hm ⊢
  have hP := attrRoot_plain hg htr (path := path) hm hu hgi
  have hg1 := (chmod_like hg htr rootC path m).1
  repeat first|(apply x1;apply r0;apply r0)|(apply x2;apply r0;(with_reducible repeat first|assumption|apply q0|apply q3);apply r0)|(apply x9;apply r0)|apply w4|apply w6|apply w7|apply w5
  refine chmod_c hg htr hc (by with_reducible repeat first|assumption|apply ps|apply gp) ?_
  generalize T.chmod rootC path m = A at hP hg1 ⊢
  repeat first|(apply x1;apply r0;apply r0)|(apply x2;apply r0;(with_reducible repeat first|assumption|apply q0|apply q3);apply r0)|apply w4|apply w6|apply w7|apply w5
  refine s_conv tk rfl rfl rfl rfl (wrap_id ⟨by omega, by omega⟩) ?_
  repeat (apply x1;apply r0;apply r0)
  refine s_conv tk rfl rfl rfl rfl (wrap_id ⟨by omega, by omega⟩) ?_
  repeat (apply x9;apply r0)
  have hg2 := (chown_like hg1 rootC path u g true).1
  refine chown_c hg1 hc (by apply ps) ?_
  generalize A.2.chown rootC path u g true = B at hP hg2 ⊢
  generalize T.look rootC path true = va at hP ⊢
  repeat first|(apply x1;apply r0;apply r0)|apply w4|apply w6|apply w7|apply w5
  refine aw_cond rfl (fun g2 => ?_) (fun g2 => ?_)<;>first|replace g2:=not_t g2|replace g2:=not_f g2
  · obtain ⟨d1, d2⟩ := hP.1 g2
    rw [d1, d2]
    repeat first|(apply x1;apply r0;apply r0)|apply w6|apply w7
    refine s_gsplit rfl rfl (fun e1 => ?_) (fun e1 => ?_)<;>first|replace e1:=of_decide_eq_true e1|replace e1:=of_decide_eq_false e1
    case refine_2 => exact (e1 rfl).elim
    repeat first|(apply x1;apply r0;apply r0)|(apply x5;apply r0)|apply w4|apply wd|apply w5|apply we
    refine rt1 (H' := H) rfl rfl (.refl _) (by repeat first|exact s0|(apply su1;assumption)) ?_
    rw [decide_eq_true rfl]
    exact hK
  obtain ⟨d1, d2, d3, d4, d5⟩ := hP.2 g2
  rw [d1, d2]
  repeat first|(apply x1;apply r0;apply r0)|(apply x2;apply r0;(with_reducible repeat first|assumption|apply q0|apply q3);apply r0)|(apply x9;apply r0)|apply w6|apply w7|apply wa|apply w5
  refine tget_c hg2.wf (by apply q0) ?_
  repeat (apply x1;apply r0;apply r0)
  refine s_alloc tk rfl rfl rfl (fun b22 hb22 => ?_); have hb := hb22; (try simp only [put_none_iff, prot_none_iff] at hb); (repeat obtain ⟨_, _, hb⟩ := hb)
  repeat first|(apply gO;first|(apply x1;apply r0;apply r0)|(apply x2;apply r0;(with_reducible repeat first|apply q0|apply ps);apply r0)|(apply xst;apply r0;(with_reducible repeat first|apply q0|apply ps);apply r0)|(apply x5;apply r0)|apply w4)|(apply gW;first|apply w6|apply w7)|apply w5
  refine s_gsplit rfl rfl (fun e1 => ?_) (fun e1 => ?_)<;>first|replace e1:=of_decide_eq_true e1|replace e1:=of_decide_eq_false e1
  case refine_2 => exact absurd d3 e1
  repeat first|(apply x1;apply r0;apply r0)|(apply x2;apply r0;(apply q0);apply r0)|(apply x5;apply r0)
  refine s_conv tk rfl rfl rfl rfl (wrap_id ⟨by omega, by omega⟩) ?_
  repeat first|(apply x1;apply r0;apply r0)|(apply x5;apply r0)
  refine s_gsplit rfl rfl (fun e2 => ?_) (fun e2 => ?_)<;>first|replace e2:=of_decide_eq_true e2|replace e2:=of_decide_eq_false e2
  case refine_2 => exact absurd d4 e2
  repeat first|(apply x1;apply r0;apply r0)|(apply x2;apply r0;(apply q0);apply r0)|(apply x5;apply r0)
  refine s_conv tk rfl rfl rfl rfl (wrap_id ⟨by omega, by omega⟩) ?_
  repeat first|(apply x1;apply r0;apply r0)|(apply x5;apply r0)|apply w4|apply wd|apply w5
  refine rt1 (H' := H) rfl rfl (.refl _) (by repeat first|exact s0|(apply su1;assumption)) ?_
  rw [decide_eq_true d5]
  exact hK
end Abs
end Go.Proofs.Ytkopeigfjjbajaa
