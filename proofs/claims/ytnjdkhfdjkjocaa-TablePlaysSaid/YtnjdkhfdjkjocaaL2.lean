import Derived.Test.YtnjdkhfdjkjocaaL1
set_option linter.unusedVariables false
namespace Go.Proofs.Ytnjdkhfdjkjocaa
namespace Abs
set_option maxRecDepth 10000
attribute [local irreducible] AOps AW ACalls thenQ inBlk noGoto

/-! ### the document's example -/
def exN : Node := ⟨2, 493, 0, 0, ⟨#[]⟩, [], ⟨#[]⟩⟩
theorem exN_ok : nodeOk exN = true := by decide
theorem exN_small : exN.small := ⟨by decide, by decide⟩
def tab0 : Tab := Tab.new 2
def tab1 : Tab := tab0.put 0 exN
def tab2 : Tab := tab1.put 1 exN
def tab3 : Tab := tab2.put 0 Node.zero
def tab4 : Tab := tab3.put 0 exN
theorem tab0_wf : tab0.wf := new_wf 2
theorem tab1_wf : tab1.wf := put_wf tab0_wf exN_small 0
theorem tab2_wf : tab2.wf := put_wf tab1_wf exN_small 1
theorem tab3_wf : tab3.wf := put_wf tab2_wf Node.zero_small 0
theorem tab4_wf : tab4.wf := put_wf tab3_wf exN_small 0
theorem lt2 {k : Nat} (h : (k : Int) < 2) : k = 0 ∨ k = 1 := by omega

theorem awake_c {H : AHeap} {K : AVal → AHeap → Prop} (hK : K (.b true) H) : ACalls Try.prog 13 [] H K := by
  refine acalls_body Try.func13 rfl rfl rfl ?_
  repeat (first|(apply w1;apply rfl;apply rfl)|(apply w2;apply rfl)|(apply w3;apply rfl;apply rfl)|apply w4|apply w5|apply w6|apply w7|(apply w8;apply rfl)|(apply w9;apply rfl)|apply wa|apply wd|apply we|apply wb|apply wc|apply wf|apply wg|apply wh|(apply wi;apply rfl)|apply wj|apply wk|apply wl|apply wm|apply wn)
  refine s_call rfl rfl fk15 ?_
  refine new_c (fun t ht => ?_)
  repeat (first|(apply w1;apply rfl;apply rfl)|(apply w2;apply rfl)|(apply w3;apply rfl;apply rfl)|apply w4|apply w5|apply w6|apply w7|(apply w8;apply rfl)|(apply w9;apply rfl)|apply wa|apply wd|apply we|apply wb|apply wc|apply wf|apply wg|apply wh|(apply wi;apply rfl)|apply wj|apply wk|apply wl|apply wm|apply wn)
  refine s_build tk rfl rfl rfl rfl rfl rfl ?_
  repeat (first|(apply w1;apply rfl;apply rfl)|(apply w2;apply rfl)|(apply w3;apply rfl;apply rfl)|apply w4|apply w5|apply w6|apply w7|(apply w8;apply rfl)|(apply w9;apply rfl)|apply wa|apply wd|apply we|apply wb|apply wc|apply wf|apply wg|apply wh|(apply wi;apply rfl)|apply wj|apply wk|apply wl|apply wm|apply wn)
  refine s_alloc tk rfl rfl rfl (fun b hb => ?_)
  obtain ⟨hbt, hb'⟩ := put_none hb
  repeat (first|(apply w1;apply rfl;apply rfl)|(apply w2;apply rfl)|(apply w3;apply rfl;apply rfl)|apply w4|apply w5|apply w6|apply w7|(apply w8;apply rfl)|(apply w9;apply rfl)|apply wa|apply wd|apply we|apply wb|apply wc|apply wf|apply wg|apply wh|(apply wi;apply rfl)|apply wj|apply wk|apply wl|apply wm|apply wn)
  refine s_storew tk rfl rfl (put_same _ _ _) rfl rfl rfl rfl ?_
  rw [put_put]
  have hwk : ((H.put t (.cells (encTab tab0))).put b (.cells (encNode exN))).sub ((H.put t (.cells (encTab (Tab.new 2)))).put b (.cells [.i 2, .i 493, .i 0, .i 0, .sl [] .full, .sl [] .full, .s ⟨#[]⟩])) := AHeap.put_sub_wk (AHeap.sub_refl _) b (.cells (wk_agg rfl))
  refine AOps_sub ?_ (Fr.sub_refl _) hwk
  have hT0 : ((H.put t (.cells (encTab tab0))).put b (.cells (encNode exN))) t = some (.cells (encTab tab0)) := by rw [put_ne (Ne.symm hbt), put_same]
  generalize hH0 : ((H.put t (.cells (encTab tab0))).put b (.cells (encNode exN))) = H0 at hT0 ⊢
  have hB0 : H0 b = some (.cells (encNode exN)) := by rw [← hH0, put_same]
  have hs : H.sub H0 := by rw [← hH0]; exact sub_new hb' (sub_new ht (AHeap.sub_refl _))
  have hB : ∀ T : Tab, (H0.put t (.cells (encTab T))) b = some (.cells (encNode exN)) := fun T => by rw [put_ne hbt]; exact hB0
  repeat (first|(apply w1;apply rfl;apply rfl)|(apply w2;apply rfl)|(apply w3;apply rfl;apply rfl)|apply w4|apply w5|apply w6|apply w7|(apply w8;apply rfl)|(apply w9;apply rfl)|apply wa|apply wd|apply we|apply wb|apply wc|apply wf|apply wg|apply wh|(apply wi;apply rfl)|apply wj|apply wk|apply wl|apply wm|apply wn)
  refine s_loadw tk rfl rfl (.inl hB0) rfl rfl ?_
  repeat (first|(apply w1;apply rfl;apply rfl)|(apply w2;apply rfl)|(apply w3;apply rfl;apply rfl)|apply w4|apply w5|apply w6|apply w7|(apply w8;apply rfl)|(apply w9;apply rfl)|apply wa|apply wd|apply we|apply wb|apply wc|apply wf|apply wg|apply wh|(apply wi;apply rfl)|apply wj|apply wk|apply wl|apply wm|apply wn)
  refine s_call rfl rfl fk16 ?_
  refine add_c tab0_wf exN_small hT0 (fun h => absurd exN_ok (by rw [h]; decide)) (fun k _ hk hall hno => ?_) (fun _ hall => absurd (hall 0 (by decide)) (by decide))
  rcases lt2 hk with rfl | rfl
  case inr => exact absurd (hall 0 (by decide)) (by decide)
  clear hall hno hk
  change AOps _ _ _ _ _ (H0.put t (.cells (encTab tab1))) _
  repeat (first|(apply w1;apply rfl;apply rfl)|(apply w2;apply rfl)|(apply w3;apply rfl;apply rfl)|apply w4|apply w5|apply w6|apply w7|(apply w8;apply rfl)|(apply w9;apply rfl)|apply wa|apply wd|apply we|apply wb|apply wc|apply wf|apply wg|apply wh|(apply wi;apply rfl)|apply wj|apply wk|apply wl|apply wm|apply wn)
  refine s_loadw tk rfl rfl (.inl (hB _)) rfl rfl ?_
  repeat (first|(apply w1;apply rfl;apply rfl)|(apply w2;apply rfl)|(apply w3;apply rfl;apply rfl)|apply w4|apply w5|apply w6|apply w7|(apply w8;apply rfl)|(apply w9;apply rfl)|apply wa|apply wd|apply we|apply wb|apply wc|apply wf|apply wg|apply wh|(apply wi;apply rfl)|apply wj|apply wk|apply wl|apply wm|apply wn)
  refine s_call rfl rfl fk16 ?_
  refine add_c tab1_wf exN_small (put_same _ _ _) (fun h => absurd exN_ok (by rw [h]; decide)) (fun k _ hk hall hno => ?_) (fun _ hall => absurd (hall 1 (by decide)) (by decide))
  rcases lt2 hk with rfl | rfl
  · exact absurd hno (by decide)
  clear hall hno hk
  rw [put_put]
  change AOps _ _ _ _ _ (H0.put t (.cells (encTab tab2))) _
  repeat (first|(apply w1;apply rfl;apply rfl)|(apply w2;apply rfl)|(apply w3;apply rfl;apply rfl)|apply w4|apply w5|apply w6|apply w7|(apply w8;apply rfl)|(apply w9;apply rfl)|apply wa|apply wd|apply we|apply wb|apply wc|apply wf|apply wg|apply wh|(apply wi;apply rfl)|apply wj|apply wk|apply wl|apply wm|apply wn)
  refine s_loadw tk rfl rfl (.inl (hB _)) rfl rfl ?_
  repeat (first|(apply w1;apply rfl;apply rfl)|(apply w2;apply rfl)|(apply w3;apply rfl;apply rfl)|apply w4|apply w5|apply w6|apply w7|(apply w8;apply rfl)|(apply w9;apply rfl)|apply wa|apply wd|apply we|apply wb|apply wc|apply wf|apply wg|apply wh|(apply wi;apply rfl)|apply wj|apply wk|apply wl|apply wm|apply wn)
  refine s_call rfl rfl fk16 ?_
  refine add_c tab2_wf exN_small (put_same _ _ _) (fun h => absurd exN_ok (by rw [h]; decide)) (fun k _ hk hall hno => ?_) (fun _ hall => ?_)
  · rcases lt2 hk with rfl | rfl <;> exact absurd hno (by decide)
  repeat (first|(apply w1;apply rfl;apply rfl)|(apply w2;apply rfl)|(apply w3;apply rfl;apply rfl)|apply w4|apply w5|apply w6|apply w7|(apply w8;apply rfl)|(apply w9;apply rfl)|apply wa|apply wd|apply we|apply wb|apply wc|apply wf|apply wg|apply wh|(apply wi;apply rfl)|apply wj|apply wk|apply wl|apply wm|apply wn)
  refine s_call rfl rfl fk17 ?_
  refine drop_c tab2_wf (put_same _ _ _) ?_
  rw [if_pos (by decide), put_put]
  change AOps _ _ _ _ _ (H0.put t (.cells (encTab tab3))) _
  repeat (first|(apply w1;apply rfl;apply rfl)|(apply w2;apply rfl)|(apply w3;apply rfl;apply rfl)|apply w4|apply w5|apply w6|apply w7|(apply w8;apply rfl)|(apply w9;apply rfl)|apply wa|apply wd|apply we|apply wb|apply wc|apply wf|apply wg|apply wh|(apply wi;apply rfl)|apply wj|apply wk|apply wl|apply wm|apply wn)
  refine s_loadw tk rfl rfl (.inl (hB _)) rfl rfl ?_
  repeat (first|(apply w1;apply rfl;apply rfl)|(apply w2;apply rfl)|(apply w3;apply rfl;apply rfl)|apply w4|apply w5|apply w6|apply w7|(apply w8;apply rfl)|(apply w9;apply rfl)|apply wa|apply wd|apply we|apply wb|apply wc|apply wf|apply wg|apply wh|(apply wi;apply rfl)|apply wj|apply wk|apply wl|apply wm|apply wn)
  refine s_call rfl rfl fk16 ?_
  refine add_c tab3_wf exN_small (put_same _ _ _) (fun h => absurd exN_ok (by rw [h]; decide)) (fun k _ hk hall hno => ?_) (fun _ hall => absurd (hall 0 (by decide)) (by decide))
  rcases lt2 hk with rfl | rfl
  case inr => exact absurd (hall 0 (by decide)) (by decide)
  rw [put_put]
  change AOps _ _ _ _ _ (H0.put t (.cells (encTab tab4))) _
  repeat (first|(apply w1;apply rfl;apply rfl)|(apply w2;apply rfl)|(apply w3;apply rfl;apply rfl)|apply w4|apply w5|apply w6|apply w7|(apply w8;apply rfl)|(apply w9;apply rfl)|apply wa|apply wd|apply we|apply wb|apply wc|apply wf|apply wg|apply wh|(apply wi;apply rfl)|apply wj|apply wk|apply wl|apply wm|apply wn)
  refine s_call rfl rfl fk25 ?_
  refine room_c (T := tab4) (.inl (put_same _ _ _)) ?_
  repeat (first|(apply w1;apply rfl;apply rfl)|(apply w2;apply rfl)|(apply w3;apply rfl;apply rfl)|apply w4|apply w5|apply w6|apply w7|(apply w8;apply rfl)|(apply w9;apply rfl)|apply wa|apply wd|apply we|apply wb|apply wc|apply wf|apply wg|apply wh|(apply wi;apply rfl)|apply wj|apply wk|apply wl|apply wm|apply wn)
  refine s_call rfl rfl fk18 ?_
  refine used_c tab4_wf (.inl (put_same _ _ _)) ?_
  repeat (first|(apply w1;apply rfl;apply rfl)|(apply w2;apply rfl)|(apply w3;apply rfl;apply rfl)|apply w4|apply w5|apply w6|apply w7|(apply w8;apply rfl)|(apply w9;apply rfl)|apply wa|apply wd|apply we|apply wb|apply wc|apply wf|apply wg|apply wh|(apply wi;apply rfl)|apply wj|apply wk|apply wl|apply wm|apply wn)
  exact rt1 rfl rfl (.refl _) (sub_new ht hs) hK
end Abs
end Go.Proofs.Ytnjdkhfdjkjocaa
