import Derived.Test.YtbldnaflffmddaaJH
set_option linter.unusedVariables false
namespace Go.Proofs.Ytbldnaflffmddaa
namespace Abs
set_option linter.unusedSimpArgs false
set_option maxRecDepth 10000
set_option maxHeartbeats 2000000
attribute [local irreducible] AOps AW AP ACalls thenQ inBlk noGoto

/-! ### chapter 20: the document's example -/
def itA : Itm := ⟨⟨#[97]⟩, true, true⟩
def itB : Itm := ⟨⟨#[98]⟩, true, true⟩
def itX : Itm := ⟨⟨#[97, 47, 120]⟩, false, false⟩
def itY : Itm := ⟨⟨#[97, 47, 121]⟩, false, false⟩
theorem sort_yx : sortB [⟨#[121]⟩, ⟨#[120]⟩] = [⟨#[120]⟩, ⟨#[121]⟩] := sort_unique ((sortB_perm _).trans (.swap _ _ _)) (sortB_sorted _) (by
  refine List.pairwise_cons.2 ⟨fun b hb => ?_, List.pairwise_singleton _ _⟩
  rw [List.mem_singleton.1 hb]
  unfold leB
  decide)
theorem w20_enter : enterL ⟨true, 72, [itB], itA, true⟩ [⟨#[121]⟩, ⟨#[120]⟩] = [itX, itY, itB] := by
  unfold enterL
  rw [sort_yx]
  kernel_rfl
theorem awake20_c {H : AHeap} {K : AVal → AHeap → Prop} (hK : K (.b true) H) : ACalls Try.prog 9 [] H K := by
  refine acalls_body Try.func9 rfl rfl rfl ?_
  repeat first|(apply gO;first|(apply x1;apply r0;apply r0)|apply w4)|(apply gW;first|apply w6|apply w7)|apply w5
  refine xbs (v := .sl (encStrs [⟨#[97]⟩, ⟨#[98]⟩]) .full) rfl ?_
  apply x9; apply r0
  refine wnew_c (how := 72) (deep := true) (l := [⟨#[97]⟩, ⟨#[98]⟩]) (by decide) (fun X bw bd bh bm hox hsx hbw hbm nmw ndm nhm hmm hw => ?_)
  replace hw : WkAt X bw bd bh bm ⟨true, 72, [itA, itB], Itm.zero, false⟩ := hw
  repeat first|(apply x1;apply r0;apply r0)|(apply x9;apply r0)|apply w4|apply w6|apply w7|apply w5
  refine wnext_c hw (fun h => by cases h) (fun i l h => ?_)
  cases h
  replace hw := hw.put (w' := ⟨true, 72, [itB], itA, true⟩) rfl rfl
  repeat (apply x1;apply r0;apply r0)
  refine s_alloc tk rfl rfl rfl (fun b2 hb2 => ?_); have hb := hb2; (try simp only [put_none_iff, prot_none_iff] at hb); (repeat obtain ⟨_, _, hb⟩ := hb)
  (apply xst;apply r0;(apply ps);apply r0)
  rw [put_put]
  replace hw := hw.other hb2 (.cells (encItm itA))
  repeat first|(apply x1;apply r0;apply r0)|(apply xbs;apply r0)|(apply x9;apply r0)|apply w4|apply w6|apply w7|apply w5
  refine wenter_c (names := [⟨#[121]⟩, ⟨#[120]⟩]) (by decide) (by decide) (by decide) (by decide) hw (fun h => by cases h) (fun _ => ?_)
  rw [w20_enter]
  replace hw := hw.put (w' := ⟨true, 72, [itX, itY, itB], itA, true⟩) rfl rfl
  repeat first|(apply x1;apply r0;apply r0)|(apply x9;apply r0)|apply w4|apply w6|apply w7|apply w5
  refine wnext_c hw (fun h => by cases h) (fun i l h => ?_)
  cases h
  replace hw := hw.put (w' := ⟨true, 72, [itY, itB], itX, true⟩) rfl rfl
  repeat (apply x1;apply r0;apply r0)
  refine s_alloc tk rfl rfl rfl (fun b4 hb4 => ?_); have hb := hb4; (try simp only [put_none_iff, prot_none_iff] at hb); (repeat obtain ⟨_, _, hb⟩ := hb)
  (apply xst;apply r0;(apply ps);apply r0)
  rw [put_put]
  replace hw := hw.other hb4 (.cells (encItm itX))
  repeat first|(apply x1;apply r0;apply r0)|(apply x9;apply r0)|apply w4|apply w6|apply w7|apply w5
  refine wnext_c hw (fun h => by cases h) (fun i l h => ?_)
  cases h
  replace hw := hw.put (w' := ⟨true, 72, [itB], itY, true⟩) rfl rfl
  repeat (apply x1;apply r0;apply r0)
  refine s_alloc tk rfl rfl rfl (fun b6 hb6 => ?_); have hb := hb6; (try simp only [put_none_iff, prot_none_iff] at hb); (repeat obtain ⟨_, _, hb⟩ := hb)
  (apply xst;apply r0;(apply ps);apply r0)
  rw [put_put]
  replace hw := hw.other hb6 (.cells (encItm itY))
  repeat first|(apply x1;apply r0;apply r0)|(apply x9;apply r0)|apply w4|apply w6|apply w7|apply w5
  refine wnext_c hw (fun h => by cases h) (fun i l h => ?_)
  cases h
  replace hw := hw.put (w' := ⟨true, 72, [], itB, true⟩) rfl rfl
  repeat (apply x1;apply r0;apply r0)
  refine s_alloc tk rfl rfl rfl (fun b8 hb8 => ?_); have hb := hb8; (try simp only [put_none_iff, prot_none_iff] at hb); (repeat obtain ⟨_, _, hb⟩ := hb)
  (apply xst;apply r0;(apply ps);apply r0)
  rw [put_put]
  replace hw := hw.other hb8 (.cells (encItm itB))
  repeat first|(apply x1;apply r0;apply r0)|(apply x9;apply r0)|apply w4|apply w6|apply w7|apply w5
  refine wnext_c hw (fun h => ?_) (fun i l h => by cases h)
  repeat (apply x1;apply r0;apply r0)
  refine s_alloc tk rfl rfl rfl (fun b10 hb10 => ?_); have hb := hb10; (try simp only [put_none_iff, prot_none_iff] at hb); (repeat obtain ⟨_, _, hb⟩ := hb)
  repeat first|(apply gO;first|(apply x1;apply r0;apply r0)|(apply x2;apply r0;(with_reducible repeat first|assumption|apply q0|apply ps|apply q3);apply r0)|(apply xst;apply r0;(with_reducible repeat first|assumption|apply q0|apply ps|apply q3);apply r0)|(apply x5;apply r0)|(apply xbd;apply r0)|apply w4)|(apply gW;first|apply w6|apply w7)|apply w5
  refine s_eqagg (r := true) tk rfl (.inl rfl) rfl rfl rfl (by kernel_rfl) rfl ?_
  repeat first|(apply x1;apply r0;apply r0)|(apply x2;apply r0;(with_reducible repeat first|assumption|apply q0|apply q3);apply r0)|(apply x5;apply r0)|(apply xbd;apply r0)
  refine s_eqagg (r := true) tk rfl (.inl rfl) rfl rfl rfl (by kernel_rfl) rfl ?_
  repeat first|(apply x1;apply r0;apply r0)|(apply x2;apply r0;(with_reducible repeat first|assumption|apply q0|apply q3);apply r0)|(apply x5;apply r0)|apply w4|apply wd|apply w5
  exact rt1 (H' := H) rfl rfl (.refl _) (by repeat first|assumption|(apply su1;assumption)|(apply su3;assumption;assumption)) hK
end Abs
end Go.Proofs.Ytbldnaflffmddaa
