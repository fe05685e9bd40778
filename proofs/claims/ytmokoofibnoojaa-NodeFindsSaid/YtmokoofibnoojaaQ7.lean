import Derived.Test.YtmokoofibnoojaaQ6
set_option linter.unusedVariables false
namespace Go.Proofs.Ytmokoofibnoojaa
namespace Abs
set_option maxRecDepth 10000
attribute [local irreducible] AOps AW ACalls thenQ inBlk noGoto

theorem rep_map (f : AVal → AVal) (m : Nat) (cs : List AVal) : (rep m cs).map f = rep m (cs.map f) := by
  simp only [rep, List.map_flatten, List.map_replicate]
theorem rnew_c {room : Int} {H : AHeap} {K : AVal → AHeap → Prop} (hK : K (.agg (encT (List.replicate (min (max room 1) 24).toNat Node.zero))) H) : ACalls Try.prog 54 [.i room] H K := by
  refine acalls_body Try.func54 rfl rfl rfl ?_
  repeat (first|(apply w1;apply rfl;apply rfl)|(apply w2;apply rfl)|(apply w3;apply rfl;apply rfl)|apply w4|apply w5|apply w6|apply w7|(apply w8;apply rfl)|(apply w9;apply rfl)|apply wa|apply wd|apply we|apply wb|apply wc|apply wf|apply wg|apply wh|(apply wi;apply rfl)|apply wj|apply wk|apply wl|apply wm|apply wn)
  refine s_alloc tk rfl rfl rfl (fun b2 h2 => ?_)
  repeat (first|(apply w1;apply rfl;apply rfl)|(apply w2;apply rfl)|(apply w3;apply rfl;apply rfl)|apply w4|apply w5|apply w6|apply w7|(apply w8;apply rfl)|(apply w9;apply rfl)|apply wa|apply wd|apply we|apply wb|apply wc|apply wf|apply wg|apply wh|(apply wi;apply rfl)|apply wj|apply wk|apply wl|apply wm|apply wn)
  have fin : ∀ (r : Int), r = min (max room 1) 24 → ∀ {F : Fr}, F.get 2 = some (.ptr b2 0) → F.get 3 = some (.i r) → True := fun _ _ _ _ _ => trivial
  have tail : ∀ (r : Int) (b : Nat) (hb : (H.put b2 (.cells [.sl [] .full])) b = none), r = min (max room 1) 24 → b ≠ b2 ∧ H b = none := fun r b hb _ => put_none hb
  have hwk : ∀ (r : Int) (b : Nat), ((H.put b2 (.cells [.sl [] .full])).put b (.cells (rep r.toNat (encM Node.zero)))).sub ((H.put b2 (.cells [.sl [] .full])).put b (.cells (rep r.toNat [.i 0, .i 0, .i 0, .i 0, .s ⟨#[]⟩, .sl [] .full, .sl [] .full, .s ⟨#[]⟩]))) := fun r b =>
    AHeap.put_sub_wk (AHeap.sub_refl _) b (.cells (wk_agg (by rw [rep_map]; rfl)))
  have hflat : ∀ m : Nat, rep m (encM Node.zero) = ((List.replicate m Node.zero).map encM).flatten := fun m => by simp [rep]
  have hdel : ∀ (x b : Nat) (o : HObj), x ≠ b → ∀ Y : AHeap, ((Y.put b o).del b) x = Y x := fun x b o hx Y => by simp [AHeap.del, AHeap.put, hx]
  have hsubf : ∀ b : Nat, (b ≠ b2 ∧ H b = none) → ∀ o, H.sub (((H.put b2 (.cells [.sl [] .full])).put b o).del b) := fun b hb o x p hx => by
    have hxb : x ≠ b := fun e => by rw [e, hb.2] at hx; cases hx
    have hx2 : x ≠ b2 := fun e => by rw [e, h2] at hx; cases hx
    exact ⟨p, by rw [hdel _ _ _ hxb, put_ne hx2]; exact hx, .refl p⟩
  refine aw_cond rfl (fun c => ?_) (fun c => ?_)
  · have c' := of_decide_eq_true c
    have hr : (1 : Int) = min (max room 1) 24 := by omega
    repeat (first|(apply w1;apply rfl;apply rfl)|(apply w2;apply rfl)|(apply w3;apply rfl;apply rfl)|apply w4|apply w5|apply w6|apply w7|(apply w8;apply rfl)|(apply w9;apply rfl)|apply wa|apply wd|apply we|apply wb|apply wc|apply wf|apply wg|apply wh|(apply wi;apply rfl)|apply wj|apply wk|apply wl|apply wm|apply wn)
    refine s_make tk rfl rfl rfl rfl rfl rfl (by decide) (by decide) (by decide) (fun b hb => ?_)
    refine AOps_sub ?_ (Fr.sub_refl _) (hwk 1 b)
    rw [hflat]
    refine aops_close (d := 10) (rows := (List.replicate (1 : Int).toNat Node.zero).map encM) (es := 8) rfl (put_same _ _ _) (by decide) (uni_ms _) rfl rfl (by decide) (by decide) (by rw [(uni_ms _).len, ms_len, List.length_replicate]; decide) ?_
    repeat (first|(apply w1;apply rfl;apply rfl)|(apply w2;apply rfl)|(apply w3;apply rfl;apply rfl)|apply w4|apply w5|apply w6|apply w7|(apply w8;apply rfl)|(apply w9;apply rfl)|apply wa|apply wd|apply we|apply wb|apply wc|apply wf|apply wg|apply wh|(apply wi;apply rfl)|apply wj|apply wk|apply wl|apply wm|apply wn)
    refine s_build tk rfl rfl rfl rfl rfl rfl ?_
    repeat (first|(apply w1;apply rfl;apply rfl)|(apply w2;apply rfl)|(apply w3;apply rfl;apply rfl)|apply w4|apply w5|apply w6|apply w7|(apply w8;apply rfl)|(apply w9;apply rfl)|apply wa|apply wd|apply we|apply wb|apply wc|apply wf|apply wg|apply wh|(apply wi;apply rfl)|apply wj|apply wk|apply wl|apply wm|apply wn)
    refine s_storew tk rfl rfl (by rw [hdel _ _ _ (Ne.symm (put_none hb).1), put_same]) rfl rfl rfl rfl ?_
    repeat (first|(apply w1;apply rfl;apply rfl)|(apply w2;apply rfl)|(apply w3;apply rfl;apply rfl)|apply w4|apply w5|apply w6|apply w7|(apply w8;apply rfl)|(apply w9;apply rfl)|apply wa|apply wd|apply we|apply wb|apply wc|apply wf|apply wg|apply wh|(apply wi;apply rfl)|apply wj|apply wk|apply wl|apply wm|apply wn)
    rw [← hr] at hK
    exact rt1c rfl rfl (.inl (put_same _ _ _)) rfl rfl (.refl _) (sub_new h2 (hsubf b (put_none hb) _)) hK
  have c' := of_decide_eq_false c
  repeat (first|(apply w1;apply rfl;apply rfl)|(apply w2;apply rfl)|(apply w3;apply rfl;apply rfl)|apply w4|apply w5|apply w6|apply w7|(apply w8;apply rfl)|(apply w9;apply rfl)|apply wa|apply wd|apply we|apply wb|apply wc|apply wf|apply wg|apply wh|(apply wi;apply rfl)|apply wj|apply wk|apply wl|apply wm|apply wn)
  refine aw_cond rfl (fun c2 => ?_) (fun c2 => ?_)
  · have c2' := of_decide_eq_true c2
    have hr : (24 : Int) = min (max room 1) 24 := by omega
    repeat (first|(apply w1;apply rfl;apply rfl)|(apply w2;apply rfl)|(apply w3;apply rfl;apply rfl)|apply w4|apply w5|apply w6|apply w7|(apply w8;apply rfl)|(apply w9;apply rfl)|apply wa|apply wd|apply we|apply wb|apply wc|apply wf|apply wg|apply wh|(apply wi;apply rfl)|apply wj|apply wk|apply wl|apply wm|apply wn)
    refine s_make tk rfl rfl rfl rfl rfl rfl (by decide) (by decide) (by decide) (fun b hb => ?_)
    refine AOps_sub ?_ (Fr.sub_refl _) (hwk 24 b)
    rw [hflat]
    refine aops_close (d := 10) (rows := (List.replicate (24 : Int).toNat Node.zero).map encM) (es := 8) rfl (put_same _ _ _) (by decide) (uni_ms _) rfl rfl (by decide) (by decide) (by rw [(uni_ms _).len, ms_len, List.length_replicate]; decide) ?_
    repeat (first|(apply w1;apply rfl;apply rfl)|(apply w2;apply rfl)|(apply w3;apply rfl;apply rfl)|apply w4|apply w5|apply w6|apply w7|(apply w8;apply rfl)|(apply w9;apply rfl)|apply wa|apply wd|apply we|apply wb|apply wc|apply wf|apply wg|apply wh|(apply wi;apply rfl)|apply wj|apply wk|apply wl|apply wm|apply wn)
    refine s_build tk rfl rfl rfl rfl rfl rfl ?_
    repeat (first|(apply w1;apply rfl;apply rfl)|(apply w2;apply rfl)|(apply w3;apply rfl;apply rfl)|apply w4|apply w5|apply w6|apply w7|(apply w8;apply rfl)|(apply w9;apply rfl)|apply wa|apply wd|apply we|apply wb|apply wc|apply wf|apply wg|apply wh|(apply wi;apply rfl)|apply wj|apply wk|apply wl|apply wm|apply wn)
    refine s_storew tk rfl rfl (by rw [hdel _ _ _ (Ne.symm (put_none hb).1), put_same]) rfl rfl rfl rfl ?_
    repeat (first|(apply w1;apply rfl;apply rfl)|(apply w2;apply rfl)|(apply w3;apply rfl;apply rfl)|apply w4|apply w5|apply w6|apply w7|(apply w8;apply rfl)|(apply w9;apply rfl)|apply wa|apply wd|apply we|apply wb|apply wc|apply wf|apply wg|apply wh|(apply wi;apply rfl)|apply wj|apply wk|apply wl|apply wm|apply wn)
    rw [← hr] at hK
    exact rt1c rfl rfl (.inl (put_same _ _ _)) rfl rfl (.refl _) (sub_new h2 (hsubf b (put_none hb) _)) hK
  · have c2' := of_decide_eq_false c2
    have hr : room = min (max room 1) 24 := by omega
    repeat (first|(apply w1;apply rfl;apply rfl)|(apply w2;apply rfl)|(apply w3;apply rfl;apply rfl)|apply w4|apply w5|apply w6|apply w7|(apply w8;apply rfl)|(apply w9;apply rfl)|apply wa|apply wd|apply we|apply wb|apply wc|apply wf|apply wg|apply wh|(apply wi;apply rfl)|apply wj|apply wk|apply wl|apply wm|apply wn)
    refine s_make tk rfl rfl rfl rfl rfl rfl (by omega) (by omega) (by omega) (fun b hb => ?_)
    refine AOps_sub ?_ (Fr.sub_refl _) (hwk room b)
    rw [hflat]
    refine aops_close (d := 10) (rows := (List.replicate room.toNat Node.zero).map encM) (es := 8) rfl (put_same _ _ _) (by decide) (uni_ms _) (by simp) (by rw [List.drop_zero]; exact List.take_of_length_le (by rw [(uni_ms _).len, ms_len, List.length_replicate]; exact Nat.le_refl _)) (by omega) (Nat.le_refl _)
      (by rw [(uni_ms _).len, ms_len, List.length_replicate]; omega) ?_
    repeat (first|(apply w1;apply rfl;apply rfl)|(apply w2;apply rfl)|(apply w3;apply rfl;apply rfl)|apply w4|apply w5|apply w6|apply w7|(apply w8;apply rfl)|(apply w9;apply rfl)|apply wa|apply wd|apply we|apply wb|apply wc|apply wf|apply wg|apply wh|(apply wi;apply rfl)|apply wj|apply wk|apply wl|apply wm|apply wn)
    refine s_build tk rfl rfl rfl rfl rfl rfl ?_
    repeat (first|(apply w1;apply rfl;apply rfl)|(apply w2;apply rfl)|(apply w3;apply rfl;apply rfl)|apply w4|apply w5|apply w6|apply w7|(apply w8;apply rfl)|(apply w9;apply rfl)|apply wa|apply wd|apply we|apply wb|apply wc|apply wf|apply wg|apply wh|(apply wi;apply rfl)|apply wj|apply wk|apply wl|apply wm|apply wn)
    refine s_storew tk rfl rfl (by rw [hdel _ _ _ (Ne.symm (put_none hb).1), put_same]) rfl rfl rfl rfl ?_
    repeat (first|(apply w1;apply rfl;apply rfl)|(apply w2;apply rfl)|(apply w3;apply rfl;apply rfl)|apply w4|apply w5|apply w6|apply w7|(apply w8;apply rfl)|(apply w9;apply rfl)|apply wa|apply wd|apply we|apply wb|apply wc|apply wf|apply wg|apply wh|(apply wi;apply rfl)|apply wj|apply wk|apply wl|apply wm|apply wn)
    rw [← hr] at hK
    exact rt1c rfl rfl (.inl (put_same _ _ _)) rfl rfl (.refl _) (sub_new h2 (hsubf b (put_none hb) _)) hK

theorem rt3c {n : Nat} {F : Fr} {H : AHeap} {fn : Func} {R : AVal → AHeap → Prop} {H' : AHeap} {p u v : Tmp} {t : TypeId} {b k : Nat} {cs : List AVal} {v2 v3 : AVal} {w : AVal} (hr : fn.results = #[.cell p t, .tmp u, .tmp v]) (hp : F.get p = some (.ptr b 0)) (hH : Rd H b cs) (ht : find ttab.size t = some (k, true)) (hl : cs.length = k) (h2 : F.get u = some v2) (h3 : F.get v = some v3)
    (hw : Wk (.tup [.agg cs, v2, v3]) w) (hs : H'.sub H) (hK : R w H') : retQ Try.prog fn n R .ret F H := ⟨_, res3 hr (rvar_agg tk hp hH ht hl) (rvar_tmp h2) (rvar_tmp h3), _, _, hw, hs, hK⟩
end Abs
end Go.Proofs.Ytmokoofibnoojaa
