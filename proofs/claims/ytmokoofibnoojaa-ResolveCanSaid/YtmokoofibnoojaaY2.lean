import Derived.Test.YtmokoofibnoojaaY1
set_option linter.unusedVariables false
namespace Go.Proofs.Ytmokoofibnoojaa
namespace Abs
set_option linter.unusedSimpArgs false
set_option maxRecDepth 10000
set_option maxHeartbeats 2000000
attribute [local irreducible] AOps AW AP ACalls thenQ inBlk noGoto

/-! ### chapter 11: the document's example -/
theorem del_put_none {H : AHeap} {b : Nat} {o : HObj} (h : H b = none) : (H.put b o).del b = H := by
  funext x
  simp only [AHeap.put, AHeap.del]
  split
  · rename_i e; rw [e, h]
  · rfl
theorem wk4 {a b b' c d : AVal} (h : Wk b b') : Wk (.tup [a, b, c, d]) (.tup [a, b', c, d]) := .tup rfl (fun j h1 h2 => match j with | 0 => .refl _ | 1 => h | 2 => .refl _ | 3 => .refl _)
theorem exC1_small : exC1.small := (by decide : (0 : Nat) ≤ 1073741824)
theorem exC3_small : exC3.small := (by decide : (0 : Nat) ≤ 1073741824)
theorem awake11_c {H : AHeap} {K : AVal → AHeap → Prop} (hK : K (.b true) H) : ACalls Try.prog 14 [] H K := by
  refine acalls_body Try.func14 rfl rfl rfl ?_
  have hg := exTab_good
  repeat first|(apply gO;first|(apply x1;apply r0;apply r0)|apply w4)|(apply gW;first|apply w6|apply w7)|apply w5
  refine xbd (v := .agg (encRawO exRaw1 .full)) rfl ?_
  refine xbd (v := .agg (encRawO exRaw2 .full)) rfl ?_
  refine s_bsliceT tk rfl rfl rfl rfl rfl rfl (uni_bytes exRaw3.data) (by decide) (fun bx hx => ?_)
  refine s_csame (xs := encBytes exRaw3.data) tk rfl rfl rfl rfl (put_same _ _ _) ?_
  rw [del_put_none hx]
  refine xbd (v := .agg (encRawO exRaw3 .no)) rfl ?_
  refine xbd (v := .agg (encRawO exRaw4 .full)) rfl ?_
  refine xbs (v := .sl [encRawO exRaw1 .full, encRawO exRaw2 .full, encRawO exRaw3 .no, encRawO exRaw4 .full] .full) rfl ?_
  apply x9; apply r0
  refine ACalls.wk (build_c (room := 9) (l := exRaws) (o := .no) (by decide) exRaws_few (fun h => by rw [exTab_some] at h; cases h) (fun T t hT ht => ?_)) (.pair (.refl _) (wk_rows rfl))
  rw [exTab_some] at hT ⊢
  cases hT
  repeat first|(apply gO;first|(apply x1;apply r0;apply r0)|apply w4)|(apply gW;first|apply w6|apply w7)|apply w5
  refine xbd (v := .agg [.i 1, .i 1, .sl [] .full]) rfl ?_
  refine s_alloc tk rfl rfl rfl (fun b4 hb4 => ?_); have hb := hb4; (try simp only [put_none_iff, prot_none_iff] at hb); (repeat obtain ⟨_, _, hb⟩ := hb)
  (apply xst;apply r0;(apply ps);apply r0)
  rw [put_put]
  refine aops_wk (ds := encCred exC1) rfl ?_
  repeat first|(apply x1;apply r0;apply r0)|(apply x2;apply r0;(apply q0);apply r0)|(apply x9;apply r0)|apply w4|apply w6|apply w7|apply w5
  refine resolve_c hg exC1_small (by with_reducible repeat first|assumption|apply q0|apply q3) ?_
  rw [ex_r1]
  repeat (apply x1;apply r0;apply r0)
  refine s_alloc tk rfl rfl rfl (fun b5 hb5 => ?_); have hb := hb5; (try simp only [put_none_iff, prot_none_iff] at hb); (repeat obtain ⟨_, _, hb⟩ := hb)
  repeat first|(apply gO;first|(apply x1;apply r0;apply r0)|(apply x2;apply r0;(with_reducible repeat first|assumption|apply q0|apply ps|apply q3);apply r0)|(apply xst;apply r0;(with_reducible repeat first|assumption|apply q0|apply ps|apply q3);apply r0)|(apply x9;apply r0)|apply w4)|(apply gW;first|apply w6|apply w7)|apply w5
  refine resolve_c hg exC1_small (by with_reducible repeat first|assumption|apply q0|apply q3) ?_
  rw [ex_r2]
  repeat (apply x1;apply r0;apply r0)
  refine s_alloc tk rfl rfl rfl (fun b7 hb7 => ?_); have hb := hb7; (try simp only [put_none_iff, prot_none_iff] at hb); (repeat obtain ⟨_, _, hb⟩ := hb)
  repeat first|(apply gO;first|(apply x1;apply r0;apply r0)|(apply x2;apply r0;(with_reducible repeat first|assumption|apply q0|apply ps|apply q3);apply r0)|(apply xst;apply r0;(with_reducible repeat first|assumption|apply q0|apply ps|apply q3);apply r0)|(apply x9;apply r0)|apply w4)|(apply gW;first|apply w6|apply w7)|apply w5
  refine resolve_c hg exC1_small (by with_reducible repeat first|assumption|apply q0|apply q3) ?_
  rw [ex_r3]
  repeat (apply x1;apply r0;apply r0)
  refine s_alloc tk rfl rfl rfl (fun b9 hb9 => ?_); have hb := hb9; (try simp only [put_none_iff, prot_none_iff] at hb); (repeat obtain ⟨_, _, hb⟩ := hb)
  repeat first|(apply gO;first|(apply x1;apply r0;apply r0)|(apply xst;apply r0;(apply ps);apply r0)|(apply xbd;apply r0)|(apply x9;apply r0)|apply w4)|(apply gW;first|apply w6|apply w7)|apply w5
  refine ACalls.wk (resolve_c (c := exC3) hg exC3_small (by with_reducible repeat first|assumption|apply q0|apply q3) ?_) (wk4 (wk_agg rfl))
  rw [ex_r4]
  repeat (apply x1;apply r0;apply r0)
  refine s_alloc tk rfl rfl rfl (fun b11 hb11 => ?_); have hb := hb11; (try simp only [put_none_iff, prot_none_iff] at hb); (repeat obtain ⟨_, _, hb⟩ := hb)
  repeat first|(apply gO;first|(apply x1;apply r0;apply r0)|(apply x2;apply r0;(with_reducible repeat first|assumption|apply q0|apply ps|apply q3);apply r0)|(apply xst;apply r0;(with_reducible repeat first|assumption|apply q0|apply ps|apply q3);apply r0)|(apply x5;apply r0)|(apply xbd;apply r0)|apply w4)|(apply gW;first|apply w6|apply w7)|apply w5
  refine s_eqagg (r := true) tk rfl (.inl rfl) rfl rfl rfl (by kernel_rfl) rfl ?_
  repeat first|(apply x1;apply r0;apply r0)|(apply x2;apply r0;(with_reducible repeat first|assumption|apply q0|apply q3);apply r0)|(apply x5;apply r0)|(apply xbd;apply r0)
  refine s_eqagg (r := true) tk rfl (.inl rfl) rfl rfl rfl (by kernel_rfl) rfl ?_
  repeat first|(apply x1;apply r0;apply r0)|(apply x2;apply r0;(with_reducible repeat first|assumption|apply q0|apply q3);apply r0)|(apply x5;apply r0)|(apply xbd;apply r0)
  refine s_eqagg (r := true) tk rfl (.inl rfl) rfl rfl rfl (by kernel_rfl) rfl ?_
  repeat first|(apply x1;apply r0;apply r0)|(apply x2;apply r0;(with_reducible repeat first|assumption|apply q0|apply q3);apply r0)|(apply x5;apply r0)|(apply x9;apply r0)
  refine can1_c hg.wf exC1_small (by with_reducible repeat first|assumption|apply q0|apply q3) ?_
  rw [ex_c1]
  repeat first|(apply x1;apply r0;apply r0)|(apply x2;apply r0;(with_reducible repeat first|assumption|apply q0|apply q3);apply r0)|(apply x5;apply r0)|(apply x9;apply r0)
  refine can1_c hg.wf exC1_small (by with_reducible repeat first|assumption|apply q0|apply q3) ?_
  rw [ex_c2]
  repeat first|(apply x1;apply r0;apply r0)|(apply x5;apply r0)|apply w4|apply wd|apply w5
  exact rt1 (H' := H) rfl rfl (.refl _) (by repeat first|exact s0|(apply su1;assumption)) hK
end Abs
end Go.Proofs.Ytmokoofibnoojaa
