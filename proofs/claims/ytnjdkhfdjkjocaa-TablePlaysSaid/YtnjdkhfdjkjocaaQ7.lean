import Derived.Test.YtnjdkhfdjkjocaaQ6
set_option linter.unusedVariables false
namespace Go.Proofs.Ytnjdkhfdjkjocaa
namespace Abs
set_option maxRecDepth 10000
attribute [local irreducible] AOps AW ACalls thenQ inBlk noGoto

theorem rep_map (f : AVal → AVal) (m : Nat) (cs : List AVal) : (rep m cs).map f = rep m (cs.map f) := by
  simp only [rep, List.map_flatten, List.map_replicate]
theorem rnew_c {room : Int} {H : AHeap} {K : AVal → AHeap → Prop} (hK : K (.agg (encT (List.replicate (min (max room 1) 24).toNat Node.zero))) H) : ACalls Try.prog 26 [.i room] H K := by
  refine acalls_body Try.func26 rfl rfl rfl ?_
  repeat (first|(apply w1;apply rfl;apply rfl)|(apply w2;apply rfl)|(apply w3;apply rfl;apply rfl)|apply w4|apply w5|apply w6|apply w7|(apply w8;apply rfl)|(apply w9;apply rfl)|apply wa|apply wd|apply we|apply wb|apply wc|apply wf|apply wg|apply wh|(apply wi;apply rfl)|apply wj|apply wk|apply wl|apply wm|apply wn)
  refine s_alloc tk rfl rfl rfl (fun b2 h2 => ?_)
  repeat (first|(apply w1;apply rfl;apply rfl)|(apply w2;apply rfl)|(apply w3;apply rfl;apply rfl)|apply w4|apply w5|apply w6|apply w7|(apply w8;apply rfl)|(apply w9;apply rfl)|apply wa|apply wd|apply we|apply wb|apply wc|apply wf|apply wg|apply wh|(apply wi;apply rfl)|apply wj|apply wk|apply wl|apply wm|apply wn)
  have fin : ∀ (r : Int), r = min (max room 1) 24 → ∀ {F : Fr}, F.get 2 = some (.ptr b2 0) → F.get 3 = some (.i r) → True := fun _ _ _ _ _ => trivial
  have tail : ∀ (r : Int) (b : Nat) (hb : (H.put b2 (.cells [.sl [] .full])) b = none), r = min (max room 1) 24 → b ≠ b2 ∧ H b = none := fun r b hb _ => put_none hb
  have hwk : ∀ (r : Int) (b : Nat), ((H.put b2 (.cells [.sl [] .full])).put b (.cells (rep r.toNat (encM Node.zero)))).sub ((H.put b2 (.cells [.sl [] .full])).put b (.cells (rep r.toNat [.i 0, .i 0, .i 0, .i 0, .s ⟨#[]⟩, .sl [] .full, .sl [] .full, .s ⟨#[]⟩]))) := fun r b =>
    AHeap.put_sub_wk (AHeap.sub_refl _) b (.cells (wk_agg (by rw [rep_map]; rfl)))
  have hflat : ∀ m : Nat, rep m (encM Node.zero) = ((List.replicate m Node.zero).map encM).flatten := fun m => by simp [rep]
  have hdel : ∀ (x b : Nat) (o : HObj), x ≠ b → ∀ Y : AHeap, ((Y.put b o).del b) x = Y x := fun x b o hx Y => by simp [AHeap.del, AHeap.put, hx]
  have hsubf : ∀ b : Nat, (b ≠ b2 ∧ H b = none) → ∀ o, H.sub (((H.put b2 (.cells [.sl [] .full])).put b o).del b) := fun b hb o x p hx => by
    have hxb : x ≠ b := fun e => by rw [e, hb.2] at hx; cases hx
    have hx2 : x ≠ b2 := fun e => by rw [e, h2] at hx; cases hx
    exact ⟨p, by rw [hdel _ _ _ hxb, put_ne hx2]; exact hx, .refl p⟩
  refine aw_cond rfl (fun c => ?_) (fun c => ?_)
  · have c' := of_decide_eq_true c
    have hr : (1 : Int) = min (max room 1) 24 := by omega
    repeat (first|(apply w1;apply rfl;apply rfl)|(apply w2;apply rfl)|(apply w3;apply rfl;apply rfl)|apply w4|apply w5|apply w6|apply w7|(apply w8;apply rfl)|(apply w9;apply rfl)|apply wa|apply wd|apply we|apply wb|apply wc|apply wf|apply wg|apply wh|(apply wi;apply rfl)|apply wj|apply wk|apply wl|apply wm|apply wn)
    refine s_make tk rfl rfl rfl rfl rfl rfl (by decide) (by decide) (by decide) (fun b hb => ?_)
    refine AOps_sub ?_ (Fr.sub_refl _) (hwk 1 b)
    rw [hflat]
    refine aops_close (d := 10) (rows := (List.replicate (1 : Int).toNat Node.zero).map encM) (es := 8) rfl (put_same _ _ _) (by decide) (uni_ms _) rfl rfl (by decide) (by decide) (by rw [(uni_ms _).len, ms_len, List.length_replicate]; decide) ?_
    repeat (first|(apply w1;apply rfl;apply rfl)|(apply w2;apply rfl)|(apply w3;apply rfl;apply rfl)|apply w4|apply w5|apply w6|apply w7|(apply w8;apply rfl)|(apply w9;apply rfl)|apply wa|apply wd|apply we|apply wb|apply wc|apply wf|apply wg|apply wh|(apply wi;apply rfl)|apply wj|apply wk|apply wl|apply wm|apply wn)
    refine s_build tk rfl rfl rfl rfl rfl rfl ?_
    repeat (first|(apply w1;apply rfl;apply rfl)|(apply w2;apply rfl)|(apply w3;apply rfl;apply rfl)|apply w4|apply w5|apply w6|apply w7|(apply w8;apply rfl)|(apply w9;apply rfl)|apply wa|apply wd|apply we|apply wb|apply wc|apply wf|apply wg|apply wh|(apply wi;apply rfl)|apply wj|apply wk|apply wl|apply wm|apply wn)
    refine s_storew tk rfl rfl (by rw [hdel _ _ _ (Ne.symm (put_none hb).1), put_same]) rfl rfl rfl rfl ?_
    repeat (first|(apply w1;apply rfl;apply rfl)|(apply w2;apply rfl)|(apply w3;apply rfl;apply rfl)|apply w4|apply w5|apply w6|apply w7|(apply w8;apply rfl)|(apply w9;apply rfl)|apply wa|apply wd|apply we|apply wb|apply wc|apply wf|apply wg|apply wh|(apply wi;apply rfl)|apply wj|apply wk|apply wl|apply wm|apply wn)
    rw [← hr] at hK
    exact rt1c rfl rfl (.inl (put_same _ _ _)) rfl rfl (.refl _) (sub_new h2 (hsubf b (put_none hb) _)) hK
  have c' := of_decide_eq_false c
  repeat (first|(apply w1;apply rfl;apply rfl)|(apply w2;apply rfl)|(apply w3;apply rfl;apply rfl)|apply w4|apply w5|apply w6|apply w7|(apply w8;apply rfl)|(apply w9;apply rfl)|apply wa|apply wd|apply we|apply wb|apply wc|apply wf|apply wg|apply wh|(apply wi;apply rfl)|apply wj|apply wk|apply wl|apply wm|apply wn)
  refine aw_cond rfl (fun c2 => ?_) (fun c2 => ?_)
  · have c2' := of_decide_eq_true c2
    have hr : (24 : Int) = min (max room 1) 24 := by omega
    repeat (first|(apply w1;apply rfl;apply rfl)|(apply w2;apply rfl)|(apply w3;apply rfl;apply rfl)|apply w4|apply w5|apply w6|apply w7|(apply w8;apply rfl)|(apply w9;apply rfl)|apply wa|apply wd|apply we|apply wb|apply wc|apply wf|apply wg|apply wh|(apply wi;apply rfl)|apply wj|apply wk|apply wl|apply wm|apply wn)
    refine s_make tk rfl rfl rfl rfl rfl rfl (by decide) (by decide) (by decide) (fun b hb => ?_)
    refine AOps_sub ?_ (Fr.sub_refl _) (hwk 24 b)
    rw [hflat]
    refine aops_close (d := 10) (rows := (List.replicate (24 : Int).toNat Node.zero).map encM) (es := 8) rfl (put_same _ _ _) (by decide) (uni_ms _) rfl rfl (by decide) (by decide) (by rw [(uni_ms _).len, ms_len, List.length_replicate]; decide) ?_
    repeat (first|(apply w1;apply rfl;apply rfl)|(apply w2;apply rfl)|(apply w3;apply rfl;apply rfl)|apply w4|apply w5|apply w6|apply w7|(apply w8;apply rfl)|(apply w9;apply rfl)|apply wa|apply wd|apply we|apply wb|apply wc|apply wf|apply wg|apply wh|(apply wi;apply rfl)|apply wj|apply wk|apply wl|apply wm|apply wn)
    refine s_build tk rfl rfl rfl rfl rfl rfl ?_
    repeat (first|(apply w1;apply rfl;apply rfl)|(apply w2;apply rfl)|(apply w3;apply rfl;apply rfl)|apply w4|apply w5|apply w6|apply w7|(apply w8;apply rfl)|(apply w9;apply rfl)|apply wa|apply wd|apply we|apply wb|apply wc|apply wf|apply wg|apply wh|(apply wi;apply rfl)|apply wj|apply wk|apply wl|apply wm|apply wn)
    refine s_storew tk rfl rfl (by rw [hdel _ _ _ (Ne.symm (put_none hb).1), put_same]) rfl rfl rfl rfl ?_
    repeat (first|(apply w1;apply rfl;apply rfl)|(apply w2;apply rfl)|(apply w3;apply rfl;apply rfl)|apply w4|apply w5|apply w6|apply w7|(apply w8;apply rfl)|(apply w9;apply rfl)|apply wa|apply wd|apply we|apply wb|apply wc|apply wf|apply wg|apply wh|(apply wi;apply rfl)|apply wj|apply wk|apply wl|apply wm|apply wn)
    rw [← hr] at hK
    exact rt1c rfl rfl (.inl (put_same _ _ _)) rfl rfl (.refl _) (sub_new h2 (hsubf b (put_none hb) _)) hK
  · have c2' := of_decide_eq_false c2
    have hr : room = min (max room 1) 24 := by omega
    repeat (first|(apply w1;apply rfl;apply rfl)|(apply w2;apply rfl)|(apply w3;apply rfl;apply rfl)|apply w4|apply w5|apply w6|apply w7|(apply w8;apply rfl)|(apply w9;apply rfl)|apply wa|apply wd|apply we|apply wb|apply wc|apply wf|apply wg|apply wh|(apply wi;apply rfl)|apply wj|apply wk|apply wl|apply wm|apply wn)
    refine s_make tk rfl rfl rfl rfl rfl rfl (by omega) (by omega) (by omega) (fun b hb => ?_)
    refine AOps_sub ?_ (Fr.sub_refl _) (hwk room b)
    rw [hflat]
    refine aops_close (d := 10) (rows := (List.replicate room.toNat Node.zero).map encM) (es := 8) rfl (put_same _ _ _) (by decide) (uni_ms _) (by simp) (by rw [List.drop_zero]; exact List.take_of_length_le (by rw [(uni_ms _).len, ms_len, List.length_replicate]; exact Nat.le_refl _)) (by omega) (Nat.le_refl _)
      (by rw [(uni_ms _).len, ms_len, List.length_replicate]; omega) ?_
    repeat (first|(apply w1;apply rfl;apply rfl)|(apply w2;apply rfl)|(apply w3;apply rfl;apply rfl)|apply w4|apply w5|apply w6|apply w7|(apply w8;apply rfl)|(apply w9;apply rfl)|apply wa|apply wd|apply we|apply wb|apply wc|apply wf|apply wg|apply wh|(apply wi;apply rfl)|apply wj|apply wk|apply wl|apply wm|apply wn)
    refine s_build tk rfl rfl rfl rfl rfl rfl ?_
    repeat (first|(apply w1;apply rfl;apply rfl)|(apply w2;apply rfl)|(apply w3;apply rfl;apply rfl)|apply w4|apply w5|apply w6|apply w7|(apply w8;apply rfl)|(apply w9;apply rfl)|apply wa|apply wd|apply we|apply wb|apply wc|apply wf|apply wg|apply wh|(apply wi;apply rfl)|apply wj|apply wk|apply wl|apply wm|apply wn)
    refine s_storew tk rfl rfl (by rw [hdel _ _ _ (Ne.symm (put_none hb).1), put_same]) rfl rfl rfl rfl ?_
    repeat (first|(apply w1;apply rfl;apply rfl)|(apply w2;apply rfl)|(apply w3;apply rfl;apply rfl)|apply w4|apply w5|apply w6|apply w7|(apply w8;apply rfl)|(apply w9;apply rfl)|apply wa|apply wd|apply we|apply wb|apply wc|apply wf|apply wg|apply wh|(apply wi;apply rfl)|apply wj|apply wk|apply wl|apply wm|apply wn)
    rw [← hr] at hK
    exact rt1c rfl rfl (.inl (put_same _ _ _)) rfl rfl (.refl _) (sub_new h2 (hsubf b (put_none hb) _)) hK

theorem rt3c {n : Nat} {F : Fr} {H : AHeap} {fn : Func} {R : AVal → AHeap → Prop} {H' : AHeap} {p u v : Tmp} {t : TypeId} {b k : Nat} {cs : List AVal} {v2 v3 : AVal} {w : AVal} (hr : fn.results = #[.cell p t, .tmp u, .tmp v]) (hp : F.get p = some (.ptr b 0)) (hH : Rd H b cs) (ht : find ttab.size t = some (k, true)) (hl : cs.length = k) (h2 : F.get u = some v2) (h3 : F.get v = some v3)
    (hw : Wk (.tup [.agg cs, v2, v3]) w) (hs : H'.sub H) (hK : R w H') : retQ Try.prog fn n R .ret F H := ⟨_, res3 hr (rvar_agg tk hp hH ht hl) (rvar_tmp h2) (rvar_tmp h3), _, _, hw, hs, hK⟩
theorem radd_c {l : List Node} (hl : l.length ≤ 1000) {n : Node} (hn : n.nlen) {H : AHeap} {K : AVal → AHeap → Prop}
    (h0 : nodeOk n = false → K (.tup [.agg (encT l), .i 0, .i 22]) H)
    (h1 : ∀ k : Nat, nodeOk n = true → k < l.length → (∀ j : Nat, j < k → ¬ (l.getD j Node.zero).kind = 0) → (l.getD k Node.zero).kind = 0 → K (.tup [.agg (encT (l.set k n)), .i (k + 1), .i 0]) H)
    (h2 : nodeOk n = true → (∀ j : Nat, j < l.length → ¬ (l.getD j Node.zero).kind = 0) → K (.tup [.agg (encT l), .i 0, .i 28]) H) : ACalls Try.prog 30 [.agg (encT l), .agg (encM n)] H K := by
  refine acalls_body Try.func30 rfl rfl rfl ?_
  have ll := ms_len l
  repeat (first|(apply w1;apply rfl;apply rfl)|(apply w2;apply rfl)|(apply w3;apply rfl;apply rfl)|apply w4|apply w5|apply w6|apply w7|(apply w8;apply rfl)|(apply w9;apply rfl)|apply wa|apply wd|apply we|apply wb|apply wc|apply wf|apply wg|apply wh|(apply wi;apply rfl)|apply wj|apply wk|apply wl|apply wm|apply wn)
  refine s_box rfl rfl rfl (fun b hb => ?_)
  repeat (first|(apply w1;apply rfl;apply rfl)|(apply w2;apply rfl)|(apply w3;apply rfl;apply rfl)|apply w4|apply w5|apply w6|apply w7|(apply w8;apply rfl)|(apply w9;apply rfl)|apply wa|apply wd|apply we|apply wb|apply wc|apply wf|apply wg|apply wh|(apply wi;apply rfl)|apply wj|apply wk|apply wl|apply wm|apply wn)
  refine s_box rfl rfl rfl (fun b3 h3 => ?_)
  obtain ⟨n3, h3'⟩ := put_none h3
  repeat (first|(apply w1;apply rfl;apply rfl)|(apply w2;apply rfl)|(apply w3;apply rfl;apply rfl)|apply w4|apply w5|apply w6|apply w7|(apply w8;apply rfl)|(apply w9;apply rfl)|apply wa|apply wd|apply we|apply wb|apply wc|apply wf|apply wg|apply wh|(apply wi;apply rfl)|apply wj|apply wk|apply wl|apply wm|apply wn)
  refine s_alloc tk rfl rfl rfl (fun b4 h4 => ?_)
  obtain ⟨n43, h4'⟩ := put_none h4
  obtain ⟨n4, h4''⟩ := put_none h4'
  have r2 : ∀ o, Rd (((H.put b (.cells (encT l))).put b3 (.cells (encM n))).put b4 o) b (encT l) := fun o => .inl (by rw [put_ne (Ne.symm n4), put_ne (Ne.symm n3), put_same])
  have r3 : ∀ o, Rd (((H.put b (.cells (encT l))).put b3 (.cells (encM n))).put b4 o) b3 (encM n) := fun o => .inl (by rw [put_ne (Ne.symm n43), put_same])
  have hsub : H.sub ((H.put b (.cells (encT l))).put b3 (.cells (encM n))) := sub_new h3' (sub_new hb (AHeap.sub_refl _))
  generalize ((H.put b (.cells (encT l))).put b3 (.cells (encM n))) = X at r2 r3 hsub h4 ⊢
  have hs2 : ∀ o, H.sub (X.put b4 o) := fun o => AHeap.sub_trans hsub (sub_new h4 (AHeap.sub_refl _))
  have hs3 : ∀ o o', H.sub ((X.put b4 o).put b4 o') := fun o o' => by rw [put_put]; exact hs2 _
  repeat (first|(apply w1;apply rfl;apply rfl)|(apply w2;apply rfl)|(apply w3;apply rfl;apply rfl)|apply w4|apply w5|apply w6|apply w7|(apply w8;apply rfl)|(apply w9;apply rfl)|apply wa|apply wd|apply we|apply wb|apply wc|apply wf|apply wg|apply wh|(apply wi;apply rfl)|apply wj|apply wk|apply wl|apply wm|apply wn)
  refine s_loadw tk rfl rfl (r3 _) rfl rfl ?_
  repeat (first|(apply w1;apply rfl;apply rfl)|(apply w2;apply rfl)|(apply w3;apply rfl;apply rfl)|apply w4|apply w5|apply w6|apply w7|(apply w8;apply rfl)|(apply w9;apply rfl)|apply wa|apply wd|apply we|apply wb|apply wc|apply wf|apply wg|apply wh|(apply wi;apply rfl)|apply wj|apply wk|apply wl|apply wm|apply wn)
  refine s_call rfl rfl fk70 ?_
  refine rright_c hn ?_
  repeat (first|(apply w1;apply rfl;apply rfl)|(apply w2;apply rfl)|(apply w3;apply rfl;apply rfl)|apply w4|apply w5|apply w6|apply w7|(apply w8;apply rfl)|(apply w9;apply rfl)|apply wa|apply wd|apply we|apply wb|apply wc|apply wf|apply wg|apply wh|(apply wi;apply rfl)|apply wj|apply wk|apply wl|apply wm|apply wn)
  refine aw_cond rfl (fun g => ?_) (fun g => ?_)
  · have g' : nodeOk n = false := by simpa using g
    repeat (first|(apply w1;apply rfl;apply rfl)|(apply w2;apply rfl)|(apply w3;apply rfl;apply rfl)|apply w4|apply w5|apply w6|apply w7|(apply w8;apply rfl)|(apply w9;apply rfl)|apply wa|apply wd|apply we|apply wb|apply wc|apply wf|apply wg|apply wh|(apply wi;apply rfl)|apply wj|apply wk|apply wl|apply wm|apply wn)
    refine s_loadw tk rfl rfl (r2 _) rfl rfl ?_
    repeat (first|(apply w1;apply rfl;apply rfl)|(apply w2;apply rfl)|(apply w3;apply rfl;apply rfl)|apply w4|apply w5|apply w6|apply w7|(apply w8;apply rfl)|(apply w9;apply rfl)|apply wa|apply wd|apply we|apply wb|apply wc|apply wf|apply wg|apply wh|(apply wi;apply rfl)|apply wj|apply wk|apply wl|apply wm|apply wn)
    refine s_storew tk rfl rfl (put_same _ _ _) rfl rfl rfl rfl ?_
    repeat (first|(apply w1;apply rfl;apply rfl)|(apply w2;apply rfl)|(apply w3;apply rfl;apply rfl)|apply w4|apply w5|apply w6|apply w7|(apply w8;apply rfl)|(apply w9;apply rfl)|apply wa|apply wd|apply we|apply wb|apply wc|apply wf|apply wg|apply wh|(apply wi;apply rfl)|apply wj|apply wk|apply wl|apply wm|apply wn)
    exact rt3c rfl rfl (.inl (put_same _ _ _)) rfl rfl rfl rfl (.refl _) (hs3 _ _) (h0 g')
  have g' : nodeOk n = true := by simpa using g
  repeat (first|(apply w1;apply rfl;apply rfl)|(apply w2;apply rfl)|(apply w3;apply rfl;apply rfl)|apply w4|apply w5|apply w6|apply w7|(apply w8;apply rfl)|(apply w9;apply rfl)|apply wa|apply wd|apply we|apply wb|apply wc|apply wf|apply wg|apply wh|(apply wi;apply rfl)|apply wj|apply wk|apply wl|apply wm|apply wn)
  refine aw_loop (fun k : Nat => k ≤ l.length ∧ ∀ j : Nat, j < k → ¬ (l.getD j Node.zero).kind = 0) (fun k => [(2, .ptr b 0), (3, .ptr b3 0), (4, .ptr b4 0), (8, .i ((k : Int) + 1))]) (fun _ => X.put b4 (.cells [.sl [] .full])) (fun k => l.length - k) 0 ⟨Nat.zero_le _, fun j h => absurd h (Nat.not_lt_zero _)⟩
    (Fr.sub_cons rfl (Fr.sub_cons rfl (Fr.sub_cons rfl (Fr.sub_cons rfl (Fr.sub_nil _))))) (AHeap.sub_refl _) ?_
  rintro k ⟨hk, hall⟩
  repeat (first|(apply w1;apply rfl;apply rfl)|(apply w2;apply rfl)|(apply w3;apply rfl;apply rfl)|apply w4|apply w5|apply w6|apply w7|(apply w8;apply rfl)|(apply w9;apply rfl)|apply wa|apply wd|apply we|apply wb|apply wc|apply wf|apply wg|apply wh|(apply wi;apply rfl)|apply wj|apply wk|apply wl|apply wm|apply wn)
  refine s_load tk rfl rfl (r2 _) rfl rfl ?_
  repeat (first|(apply w1;apply rfl;apply rfl)|(apply w2;apply rfl)|(apply w3;apply rfl;apply rfl)|apply w4|apply w5|apply w6|apply w7|(apply w8;apply rfl)|(apply w9;apply rfl)|apply wa|apply wd|apply we|apply wb|apply wc|apply wf|apply wg|apply wh|(apply wi;apply rfl)|apply wj|apply wk|apply wl|apply wm|apply wn)
  refine aw_cond rfl (fun c => ?_) (fun c => ?_)
  case refine_2 =>
    have : k = l.length := by have := of_decide_eq_false c; omega
    subst this
    repeat (first|(apply w1;apply rfl;apply rfl)|(apply w2;apply rfl)|(apply w3;apply rfl;apply rfl)|apply w4|apply w5|apply w6|apply w7|(apply w8;apply rfl)|(apply w9;apply rfl)|apply wa|apply wd|apply we|apply wb|apply wc|apply wf|apply wg|apply wh|(apply wi;apply rfl)|apply wj|apply wk|apply wl|apply wm|apply wn)
    refine s_loadw tk rfl rfl (r2 _) rfl rfl ?_
    repeat (first|(apply w1;apply rfl;apply rfl)|(apply w2;apply rfl)|(apply w3;apply rfl;apply rfl)|apply w4|apply w5|apply w6|apply w7|(apply w8;apply rfl)|(apply w9;apply rfl)|apply wa|apply wd|apply we|apply wb|apply wc|apply wf|apply wg|apply wh|(apply wi;apply rfl)|apply wj|apply wk|apply wl|apply wm|apply wn)
    refine s_storew tk rfl rfl (put_same _ _ _) rfl rfl rfl rfl ?_
    repeat (first|(apply w1;apply rfl;apply rfl)|(apply w2;apply rfl)|(apply w3;apply rfl;apply rfl)|apply w4|apply w5|apply w6|apply w7|(apply w8;apply rfl)|(apply w9;apply rfl)|apply wa|apply wd|apply we|apply wb|apply wc|apply wf|apply wg|apply wh|(apply wi;apply rfl)|apply wj|apply wk|apply wl|apply wm|apply wn)
    exact rt3c rfl rfl (.inl (put_same _ _ _)) rfl rfl rfl rfl (.refl _) (hs3 _ _) (h2 g' hall)
  have c' : k < l.length := by have := of_decide_eq_true c; omega
  have hg : l.getD k Node.zero = l[k] := by rw [List.getD_eq_getElem?_getD, List.getElem?_eq_getElem c']; rfl
  repeat (first|(apply w1;apply rfl;apply rfl)|(apply w2;apply rfl)|(apply w3;apply rfl;apply rfl)|apply w4|apply w5|apply w6|apply w7|(apply w8;apply rfl)|(apply w9;apply rfl)|apply wa|apply wd|apply we|apply wb|apply wc|apply wf|apply wg|apply wh|(apply wi;apply rfl)|apply wj|apply wk|apply wl|apply wm|apply wn)
  refine s_load tk rfl rfl (r2 _) rfl rfl ?_
  repeat (first|(apply w1;apply rfl;apply rfl)|(apply w2;apply rfl)|(apply w3;apply rfl;apply rfl)|apply w4|apply w5|apply w6|apply w7|(apply w8;apply rfl)|(apply w9;apply rfl)|apply wa|apply wd|apply we|apply wb|apply wc|apply wf|apply wg|apply wh|(apply wi;apply rfl)|apply wj|apply wk|apply wl|apply wm|apply wn)
  refine s_sub rfl rfl rfl (by omega) ?_
  repeat (first|(apply w1;apply rfl;apply rfl)|(apply w2;apply rfl)|(apply w3;apply rfl;apply rfl)|apply w4|apply w5|apply w6|apply w7|(apply w8;apply rfl)|(apply w9;apply rfl)|apply wa|apply wd|apply we|apply wb|apply wc|apply wf|apply wg|apply wh|(apply wi;apply rfl)|apply wj|apply wk|apply wl|apply wm|apply wn)
  refine s_index tk rfl rfl rfl rfl (by omega) (show (l.map encM)[((k : Int) + 1 - 1).toNat]? = some (encM l[k]) by rw [show ((k : Int) + 1 - 1).toNat = k by omega]; exact ms_get' l k c') rfl ?_
  repeat (first|(apply w1;apply rfl;apply rfl)|(apply w2;apply rfl)|(apply w3;apply rfl;apply rfl)|apply w4|apply w5|apply w6|apply w7|(apply w8;apply rfl)|(apply w9;apply rfl)|apply wa|apply wd|apply we|apply wb|apply wc|apply wf|apply wg|apply wh|(apply wi;apply rfl)|apply wj|apply wk|apply wl|apply wm|apply wn|(apply s_load tk;apply rfl;apply rfl;(assumption);apply rfl;apply rfl)|(apply s_ept tk;apply rfl;apply rfl;apply rfl;apply rfl))
  refine aw_cond rfl (fun e => ?_) (fun e => ?_)
  · have e' : (l.getD k Node.zero).kind = 0 := by rw [hg]; exact of_decide_eq_true e
    repeat (first|(apply w1;apply rfl;apply rfl)|(apply w2;apply rfl)|(apply w3;apply rfl;apply rfl)|apply w4|apply w5|apply w6|apply w7|(apply w8;apply rfl)|(apply w9;apply rfl)|apply wa|apply wd|apply we|apply wb|apply wc|apply wf|apply wg|apply wh|(apply wi;apply rfl)|apply wj|apply wk|apply wl|apply wm|apply wn)
    refine s_loadw tk rfl rfl (r2 _) rfl rfl ?_
    repeat (first|(apply w1;apply rfl;apply rfl)|(apply w2;apply rfl)|(apply w3;apply rfl;apply rfl)|apply w4|apply w5|apply w6|apply w7|(apply w8;apply rfl)|(apply w9;apply rfl)|apply wa|apply wd|apply we|apply wb|apply wc|apply wf|apply wg|apply wh|(apply wi;apply rfl)|apply wj|apply wk|apply wl|apply wm|apply wn)
    refine s_loadw tk rfl rfl (r3 _) rfl rfl ?_
    repeat (first|(apply w1;apply rfl;apply rfl)|(apply w2;apply rfl)|(apply w3;apply rfl;apply rfl)|apply w4|apply w5|apply w6|apply w7|(apply w8;apply rfl)|(apply w9;apply rfl)|apply wa|apply wd|apply we|apply wb|apply wc|apply wf|apply wg|apply wh|(apply wi;apply rfl)|apply wj|apply wk|apply wl|apply wm|apply wn)
    refine s_call rfl rfl fk39 ?_
    refine rwith_c (by omega) hl ?_
    rw [show ((k : Int) + 1 - 1).toNat = k by omega]
    repeat (first|(apply w1;apply rfl;apply rfl)|(apply w2;apply rfl)|(apply w3;apply rfl;apply rfl)|apply w4|apply w5|apply w6|apply w7|(apply w8;apply rfl)|(apply w9;apply rfl)|apply wa|apply wd|apply we|apply wb|apply wc|apply wf|apply wg|apply wh|(apply wi;apply rfl)|apply wj|apply wk|apply wl|apply wm|apply wn)
    refine s_storew tk rfl rfl (put_same _ _ _) rfl rfl rfl rfl ?_
    repeat (first|(apply w1;apply rfl;apply rfl)|(apply w2;apply rfl)|(apply w3;apply rfl;apply rfl)|apply w4|apply w5|apply w6|apply w7|(apply w8;apply rfl)|(apply w9;apply rfl)|apply wa|apply wd|apply we|apply wb|apply wc|apply wf|apply wg|apply wh|(apply wi;apply rfl)|apply wj|apply wk|apply wl|apply wm|apply wn)
    exact rt3c rfl rfl (.inl (put_same _ _ _)) rfl rfl rfl rfl (.refl _) (hs3 _ _) (h1 k g' c' hall e')
  · have e' : ¬ (l.getD k Node.zero).kind = 0 := by rw [hg]; exact of_decide_eq_false e
    repeat (first|(apply w1;apply rfl;apply rfl)|(apply w2;apply rfl)|(apply w3;apply rfl;apply rfl)|apply w4|apply w5|apply w6|apply w7|(apply w8;apply rfl)|(apply w9;apply rfl)|apply wa|apply wd|apply we|apply wb|apply wc|apply wf|apply wg|apply wh|(apply wi;apply rfl)|apply wj|apply wk|apply wl|apply wm|apply wn)
    refine s_add rfl rfl rfl (by omega) ?_
    repeat (first|(apply w1;apply rfl;apply rfl)|(apply w2;apply rfl)|(apply w3;apply rfl;apply rfl)|apply w4|apply w5|apply w6|apply w7|(apply w8;apply rfl)|(apply w9;apply rfl)|apply wa|apply wd|apply we|apply wb|apply wc|apply wf|apply wg|apply wh|(apply wi;apply rfl)|apply wj|apply wk|apply wl|apply wm|apply wn)
    refine ⟨k + 1, ⟨c', fun j hj => ?_⟩, by omega, Fr.sub_cons rfl (Fr.sub_cons rfl (Fr.sub_cons rfl (Fr.sub_cons rfl (Fr.sub_nil _)))), AHeap.sub_refl _⟩
    rcases Nat.lt_or_ge j k with h | h
    · exact hall j h
    · rw [show j = k by omega]; exact e'
end Abs
end Go.Proofs.Ytnjdkhfdjkjocaa
