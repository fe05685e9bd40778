import Derived.Test.YtnjdkhfdjkjocaaQ5
set_option linter.unusedVariables false
namespace Go.Proofs.Ytnjdkhfdjkjocaa
namespace Abs
set_option maxRecDepth 10000
attribute [local irreducible] AOps AW ACalls thenQ inBlk noGoto

def rused (l : List Node) : Nat → Int
  | 0 => 0
  | k + 1 => rused l k + if (l.getD k Node.zero).kind = 0 then 0 else 1
theorem rused_le (l : List Node) : ∀ k : Nat, 0 ≤ rused l k ∧ rused l k ≤ k
  | 0 => ⟨Int.le_refl _, Int.le_refl _⟩
  | k + 1 => by
    have := rused_le l k
    simp only [rused]
    split <;> omega
theorem rused_c {l : List Node} (hl : l.length ≤ 1000) {H : AHeap} {K : AVal → AHeap → Prop} (hK : K (.i (rused l l.length)) H) : ACalls Try.prog 37 [.agg (encT l)] H K := by
  refine acalls_body Try.func37 rfl rfl rfl ?_
  have ll := ms_len l
  repeat (first|(apply w1;apply rfl;apply rfl)|(apply w2;apply rfl)|(apply w3;apply rfl;apply rfl)|apply w4|apply w5|apply w6|apply w7|(apply w8;apply rfl)|(apply w9;apply rfl)|apply wa|apply wd|apply we|apply wb|apply wc|apply wf|apply wg|apply wh|(apply wi;apply rfl)|apply wj|apply wk|apply wl|apply wm|apply wn)
  refine s_box rfl rfl rfl (fun b hb => ?_)
  have hsub : H.sub (H.put b (.cells (encT l))) := sub_new hb (AHeap.sub_refl _)
  have hrd : Rd (H.put b (.cells (encT l))) b (encT l) := .inl (put_same _ _ _)
  generalize H.put b (.cells (encT l)) = X at hsub hrd ⊢
  repeat (first|(apply w1;apply rfl;apply rfl)|(apply w2;apply rfl)|(apply w3;apply rfl;apply rfl)|apply w4|apply w5|apply w6|apply w7|(apply w8;apply rfl)|(apply w9;apply rfl)|apply wa|apply wd|apply we|apply wb|apply wc|apply wf|apply wg|apply wh|(apply wi;apply rfl)|apply wj|apply wk|apply wl|apply wm|apply wn|(apply s_load tk;apply rfl;apply rfl;(assumption);apply rfl;apply rfl)|(apply s_ept tk;apply rfl;apply rfl;apply rfl;apply rfl))
  refine aw_loop (fun d : Nat => d ≤ l.length) (fun d => [(1, .ptr b 0), (3, .i (rused l d)), (4, .i d)]) (fun _ => X) (fun d => l.length - d) 0 (Nat.zero_le _) (Fr.sub_cons rfl (Fr.sub_cons rfl (Fr.sub_cons rfl (Fr.sub_nil _)))) (AHeap.sub_refl _) ?_
  intro d hd
  have hb := rused_le l d
  repeat (first|(apply w1;apply rfl;apply rfl)|(apply w2;apply rfl)|(apply w3;apply rfl;apply rfl)|apply w4|apply w5|apply w6|apply w7|(apply w8;apply rfl)|(apply w9;apply rfl)|apply wa|apply wd|apply we|apply wb|apply wc|apply wf|apply wg|apply wh|(apply wi;apply rfl)|apply wj|apply wk|apply wl|apply wm|apply wn|(apply s_load tk;apply rfl;apply rfl;(assumption);apply rfl;apply rfl)|(apply s_ept tk;apply rfl;apply rfl;apply rfl;apply rfl))
  refine aw_cond rfl (fun c => ?_) (fun c => ?_)
  case refine_2 =>
    have : d = l.length := by have := of_decide_eq_false c; omega
    subst this
    repeat (first|(apply w1;apply rfl;apply rfl)|(apply w2;apply rfl)|(apply w3;apply rfl;apply rfl)|apply w4|apply w5|apply w6|apply w7|(apply w8;apply rfl)|(apply w9;apply rfl)|apply wa|apply wd|apply we|apply wb|apply wc|apply wf|apply wg|apply wh|(apply wi;apply rfl)|apply wj|apply wk|apply wl|apply wm|apply wn|(apply s_load tk;apply rfl;apply rfl;(assumption);apply rfl;apply rfl)|(apply s_ept tk;apply rfl;apply rfl;apply rfl;apply rfl))
    exact rt1 rfl rfl (.refl _) hsub hK
  have c' : d < l.length := by have := of_decide_eq_true c; omega
  have hg : l.getD d Node.zero = l[d] := by rw [List.getD_eq_getElem?_getD, List.getElem?_eq_getElem c']; rfl
  have hst : rused l (d + 1) = rused l d + if l[d].kind = 0 then 0 else 1 := by simp only [rused, hg]
  repeat (first|(apply w1;apply rfl;apply rfl)|(apply w2;apply rfl)|(apply w3;apply rfl;apply rfl)|apply w4|apply w5|apply w6|apply w7|(apply w8;apply rfl)|(apply w9;apply rfl)|apply wa|apply wd|apply we|apply wb|apply wc|apply wf|apply wg|apply wh|(apply wi;apply rfl)|apply wj|apply wk|apply wl|apply wm|apply wn|(apply s_load tk;apply rfl;apply rfl;(assumption);apply rfl;apply rfl)|(apply s_ept tk;apply rfl;apply rfl;apply rfl;apply rfl))
  refine s_index tk rfl rfl rfl rfl (by omega) (ms_get l d c') rfl ?_
  repeat (first|(apply w1;apply rfl;apply rfl)|(apply w2;apply rfl)|(apply w3;apply rfl;apply rfl)|apply w4|apply w5|apply w6|apply w7|(apply w8;apply rfl)|(apply w9;apply rfl)|apply wa|apply wd|apply we|apply wb|apply wc|apply wf|apply wg|apply wh|(apply wi;apply rfl)|apply wj|apply wk|apply wl|apply wm|apply wn|(apply s_load tk;apply rfl;apply rfl;(assumption);apply rfl;apply rfl)|(apply s_ept tk;apply rfl;apply rfl;apply rfl;apply rfl))
  refine aw_cond rfl (fun e => ?_) (fun e => ?_)
  · rw [if_neg (by simpa using e)] at hst
    repeat (first|(apply w1;apply rfl;apply rfl)|(apply w2;apply rfl)|(apply w3;apply rfl;apply rfl)|apply w4|apply w5|apply w6|apply w7|(apply w8;apply rfl)|(apply w9;apply rfl)|apply wa|apply wd|apply we|apply wb|apply wc|apply wf|apply wg|apply wh|(apply wi;apply rfl)|apply wj|apply wk|apply wl|apply wm|apply wn|(apply s_load tk;apply rfl;apply rfl;(assumption);apply rfl;apply rfl)|(apply s_ept tk;apply rfl;apply rfl;apply rfl;apply rfl))
    refine s_add rfl rfl rfl (by omega) ?_
    rw [← hst]
    repeat (first|(apply w1;apply rfl;apply rfl)|(apply w2;apply rfl)|(apply w3;apply rfl;apply rfl)|apply w4|apply w5|apply w6|apply w7|(apply w8;apply rfl)|(apply w9;apply rfl)|apply wa|apply wd|apply we|apply wb|apply wc|apply wf|apply wg|apply wh|(apply wi;apply rfl)|apply wj|apply wk|apply wl|apply wm|apply wn|(apply s_load tk;apply rfl;apply rfl;(assumption);apply rfl;apply rfl)|(apply s_ept tk;apply rfl;apply rfl;apply rfl;apply rfl))
    refine s_add rfl rfl rfl (by omega) ?_
    repeat (first|(apply w1;apply rfl;apply rfl)|(apply w2;apply rfl)|(apply w3;apply rfl;apply rfl)|apply w4|apply w5|apply w6|apply w7|(apply w8;apply rfl)|(apply w9;apply rfl)|apply wa|apply wd|apply we|apply wb|apply wc|apply wf|apply wg|apply wh|(apply wi;apply rfl)|apply wj|apply wk|apply wl|apply wm|apply wn|(apply s_load tk;apply rfl;apply rfl;(assumption);apply rfl;apply rfl)|(apply s_ept tk;apply rfl;apply rfl;apply rfl;apply rfl))
    exact ⟨d + 1, c', by omega, Fr.sub_cons rfl (Fr.sub_cons rfl (Fr.sub_cons rfl (Fr.sub_nil _))), AHeap.sub_refl _⟩
  · rw [if_pos (by simpa using e), Int.add_zero] at hst
    rw [← hst]
    repeat (first|(apply w1;apply rfl;apply rfl)|(apply w2;apply rfl)|(apply w3;apply rfl;apply rfl)|apply w4|apply w5|apply w6|apply w7|(apply w8;apply rfl)|(apply w9;apply rfl)|apply wa|apply wd|apply we|apply wb|apply wc|apply wf|apply wg|apply wh|(apply wi;apply rfl)|apply wj|apply wk|apply wl|apply wm|apply wn|(apply s_load tk;apply rfl;apply rfl;(assumption);apply rfl;apply rfl)|(apply s_ept tk;apply rfl;apply rfl;apply rfl;apply rfl))
    refine s_add rfl rfl rfl (by omega) ?_
    repeat (first|(apply w1;apply rfl;apply rfl)|(apply w2;apply rfl)|(apply w3;apply rfl;apply rfl)|apply w4|apply w5|apply w6|apply w7|(apply w8;apply rfl)|(apply w9;apply rfl)|apply wa|apply wd|apply we|apply wb|apply wc|apply wf|apply wg|apply wh|(apply wi;apply rfl)|apply wj|apply wk|apply wl|apply wm|apply wn|(apply s_load tk;apply rfl;apply rfl;(assumption);apply rfl;apply rfl)|(apply s_ept tk;apply rfl;apply rfl;apply rfl;apply rfl))
    exact ⟨d + 1, c', by omega, Fr.sub_cons rfl (Fr.sub_cons rfl (Fr.sub_cons rfl (Fr.sub_nil _))), AHeap.sub_refl _⟩
theorem rdrop_c {l : List Node} (hl : l.length ≤ 1000) {i : Int} {H : AHeap} {K : AVal → AHeap → Prop} (hK : K (.tup [.agg (encT (if ris l i then l.set (i - 1).toNat Node.zero else l)), .b (ris l i)]) H) : ACalls Try.prog 31 [.agg (encT l), .i i] H K := by
  refine acalls_body Try.func31 rfl rfl rfl ?_
  repeat (first|(apply w1;apply rfl;apply rfl)|(apply w2;apply rfl)|(apply w3;apply rfl;apply rfl)|apply w4|apply w5|apply w6|apply w7|(apply w8;apply rfl)|(apply w9;apply rfl)|apply wa|apply wd|apply we|apply wb|apply wc|apply wf|apply wg|apply wh|(apply wi;apply rfl)|apply wj|apply wk|apply wl|apply wm|apply wn)
  refine s_box rfl rfl rfl (fun b hb => ?_)
  repeat (first|(apply w1;apply rfl;apply rfl)|(apply w2;apply rfl)|(apply w3;apply rfl;apply rfl)|apply w4|apply w5|apply w6|apply w7|(apply w8;apply rfl)|(apply w9;apply rfl)|apply wa|apply wd|apply we|apply wb|apply wc|apply wf|apply wg|apply wh|(apply wi;apply rfl)|apply wj|apply wk|apply wl|apply wm|apply wn)
  refine s_alloc tk rfl rfl rfl (fun b4 h4 => ?_)
  obtain ⟨n4, h4'⟩ := put_none h4
  repeat (first|(apply w1;apply rfl;apply rfl)|(apply w2;apply rfl)|(apply w3;apply rfl;apply rfl)|apply w4|apply w5|apply w6|apply w7|(apply w8;apply rfl)|(apply w9;apply rfl)|apply wa|apply wd|apply we|apply wb|apply wc|apply wf|apply wg|apply wh|(apply wi;apply rfl)|apply wj|apply wk|apply wl|apply wm|apply wn)
  refine s_loadw tk rfl rfl (.inl (by rw [put_ne (Ne.symm n4), put_same])) rfl rfl ?_
  repeat (first|(apply w1;apply rfl;apply rfl)|(apply w2;apply rfl)|(apply w3;apply rfl;apply rfl)|apply w4|apply w5|apply w6|apply w7|(apply w8;apply rfl)|(apply w9;apply rfl)|apply wa|apply wd|apply we|apply wb|apply wc|apply wf|apply wg|apply wh|(apply wi;apply rfl)|apply wj|apply wk|apply wl|apply wm|apply wn)
  refine s_call rfl rfl fk32 ?_
  refine ris_c (by omega) ?_
  repeat (first|(apply w1;apply rfl;apply rfl)|(apply w2;apply rfl)|(apply w3;apply rfl;apply rfl)|apply w4|apply w5|apply w6|apply w7|(apply w8;apply rfl)|(apply w9;apply rfl)|apply wa|apply wd|apply we|apply wb|apply wc|apply wf|apply wg|apply wh|(apply wi;apply rfl)|apply wj|apply wk|apply wl|apply wm|apply wn)
  refine aw_cond rfl (fun e => ?_) (fun e => ?_)
  · have e' : ris l i = false := by simpa using e
    rw [e'] at hK
    repeat (first|(apply w1;apply rfl;apply rfl)|(apply w2;apply rfl)|(apply w3;apply rfl;apply rfl)|apply w4|apply w5|apply w6|apply w7|(apply w8;apply rfl)|(apply w9;apply rfl)|apply wa|apply wd|apply we|apply wb|apply wc|apply wf|apply wg|apply wh|(apply wi;apply rfl)|apply wj|apply wk|apply wl|apply wm|apply wn)
    refine s_loadw tk rfl rfl (.inl (by rw [put_ne (Ne.symm n4), put_same])) rfl rfl ?_
    repeat (first|(apply w1;apply rfl;apply rfl)|(apply w2;apply rfl)|(apply w3;apply rfl;apply rfl)|apply w4|apply w5|apply w6|apply w7|(apply w8;apply rfl)|(apply w9;apply rfl)|apply wa|apply wd|apply we|apply wb|apply wc|apply wf|apply wg|apply wh|(apply wi;apply rfl)|apply wj|apply wk|apply wl|apply wm|apply wn)
    refine s_storew tk rfl rfl (put_same _ _ _) rfl rfl rfl rfl ?_
    repeat (first|(apply w1;apply rfl;apply rfl)|(apply w2;apply rfl)|(apply w3;apply rfl;apply rfl)|apply w4|apply w5|apply w6|apply w7|(apply w8;apply rfl)|(apply w9;apply rfl)|apply wa|apply wd|apply we|apply wb|apply wc|apply wf|apply wg|apply wh|(apply wi;apply rfl)|apply wj|apply wk|apply wl|apply wm|apply wn)
    exact rt2c rfl rfl (.inl (put_same _ _ _)) rfl rfl rfl (.refl _) (sub_new h4' (sub_new h4' (sub_new hb (AHeap.sub_refl _)))) hK
  · have e' : ris l i = true := by simpa using e
    rw [e', if_pos rfl] at hK
    have hi : 1 ≤ i ∧ i ≤ l.length := by
      unfold ris at e'
      simp only [Bool.and_eq_true, decide_eq_true_eq] at e'
      exact e'.1
    repeat (first|(apply w1;apply rfl;apply rfl)|(apply w2;apply rfl)|(apply w3;apply rfl;apply rfl)|apply w4|apply w5|apply w6|apply w7|(apply w8;apply rfl)|(apply w9;apply rfl)|apply wa|apply wd|apply we|apply wb|apply wc|apply wf|apply wg|apply wh|(apply wi;apply rfl)|apply wj|apply wk|apply wl|apply wm|apply wn)
    refine s_loadw tk rfl rfl (.inl (by rw [put_ne (Ne.symm n4), put_same])) rfl rfl ?_
    repeat (first|(apply w1;apply rfl;apply rfl)|(apply w2;apply rfl)|(apply w3;apply rfl;apply rfl)|apply w4|apply w5|apply w6|apply w7|(apply w8;apply rfl)|(apply w9;apply rfl)|apply wa|apply wd|apply we|apply wb|apply wc|apply wf|apply wg|apply wh|(apply wi;apply rfl)|apply wj|apply wk|apply wl|apply wm|apply wn)
    refine s_build tk rfl rfl rfl rfl rfl rfl ?_
    refine AOps_sub (F := (15, .agg (encM Node.zero)) :: [(4, .ptr b4 0), (13, .agg (encT l)), (14, .i i)]) ?_ (Fr.sub_cons_wk rfl (wk_agg rfl) (Fr.sub_cons rfl (Fr.sub_cons rfl (Fr.sub_cons rfl (Fr.sub_nil _))))) (AHeap.sub_refl _)
    refine s_call rfl rfl fk39 ?_
    refine rwith_c hi hl ?_
    repeat (first|(apply w1;apply rfl;apply rfl)|(apply w2;apply rfl)|(apply w3;apply rfl;apply rfl)|apply w4|apply w5|apply w6|apply w7|(apply w8;apply rfl)|(apply w9;apply rfl)|apply wa|apply wd|apply we|apply wb|apply wc|apply wf|apply wg|apply wh|(apply wi;apply rfl)|apply wj|apply wk|apply wl|apply wm|apply wn)
    refine s_storew tk rfl rfl (put_same _ _ _) rfl rfl rfl rfl ?_
    repeat (first|(apply w1;apply rfl;apply rfl)|(apply w2;apply rfl)|(apply w3;apply rfl;apply rfl)|apply w4|apply w5|apply w6|apply w7|(apply w8;apply rfl)|(apply w9;apply rfl)|apply wa|apply wd|apply we|apply wb|apply wc|apply wf|apply wg|apply wh|(apply wi;apply rfl)|apply wj|apply wk|apply wl|apply wm|apply wn)
    exact rt2c rfl rfl (.inl (put_same _ _ _)) rfl rfl rfl (.refl _) (sub_new h4' (sub_new h4' (sub_new hb (AHeap.sub_refl _)))) hK
theorem rput_c {l : List Node} (hl : l.length ≤ 1000) {i : Int} {n : Node} (hn : n.nlen) {H : AHeap} {K : AVal → AHeap → Prop}
    (hK : K (.tup [.agg (encT (if ris l i && nodeOk n then l.set (i - 1).toNat n else l)), .i (if ris l i then (if nodeOk n then 0 else 22) else 2)]) H) : ACalls Try.prog 28 [.agg (encT l), .i i, .agg (encM n)] H K := by
  refine acalls_body Try.func28 rfl rfl rfl ?_
  repeat (first|(apply w1;apply rfl;apply rfl)|(apply w2;apply rfl)|(apply w3;apply rfl;apply rfl)|apply w4|apply w5|apply w6|apply w7|(apply w8;apply rfl)|(apply w9;apply rfl)|apply wa|apply wd|apply we|apply wb|apply wc|apply wf|apply wg|apply wh|(apply wi;apply rfl)|apply wj|apply wk|apply wl|apply wm|apply wn)
  refine s_box rfl rfl rfl (fun b hb => ?_)
  repeat (first|(apply w1;apply rfl;apply rfl)|(apply w2;apply rfl)|(apply w3;apply rfl;apply rfl)|apply w4|apply w5|apply w6|apply w7|(apply w8;apply rfl)|(apply w9;apply rfl)|apply wa|apply wd|apply we|apply wb|apply wc|apply wf|apply wg|apply wh|(apply wi;apply rfl)|apply wj|apply wk|apply wl|apply wm|apply wn)
  refine s_box rfl rfl rfl (fun b5 h5 => ?_)
  obtain ⟨n5, h5'⟩ := put_none h5
  repeat (first|(apply w1;apply rfl;apply rfl)|(apply w2;apply rfl)|(apply w3;apply rfl;apply rfl)|apply w4|apply w5|apply w6|apply w7|(apply w8;apply rfl)|(apply w9;apply rfl)|apply wa|apply wd|apply we|apply wb|apply wc|apply wf|apply wg|apply wh|(apply wi;apply rfl)|apply wj|apply wk|apply wl|apply wm|apply wn)
  refine s_alloc tk rfl rfl rfl (fun b6 h6 => ?_)
  obtain ⟨n65, h6'⟩ := put_none h6
  obtain ⟨n6, h6''⟩ := put_none h6'
  have r1 : ∀ o, Rd (((H.put b (.cells (encT l))).put b5 (.cells (encM n))).put b6 o) b (encT l) := fun o => .inl (by rw [put_ne (Ne.symm n6), put_ne (Ne.symm n5), put_same])
  have r5 : ∀ o, Rd (((H.put b (.cells (encT l))).put b5 (.cells (encM n))).put b6 o) b5 (encM n) := fun o => .inl (by rw [put_ne (Ne.symm n65), put_same])
  have hsub : H.sub ((H.put b (.cells (encT l))).put b5 (.cells (encM n))) := sub_new h5' (sub_new hb (AHeap.sub_refl _))
  have hnew : ((H.put b (.cells (encT l))).put b5 (.cells (encM n))) b6 = none := h6
  generalize ((H.put b (.cells (encT l))).put b5 (.cells (encM n))) = X at r1 r5 hsub hnew ⊢
  repeat (first|(apply w1;apply rfl;apply rfl)|(apply w2;apply rfl)|(apply w3;apply rfl;apply rfl)|apply w4|apply w5|apply w6|apply w7|(apply w8;apply rfl)|(apply w9;apply rfl)|apply wa|apply wd|apply we|apply wb|apply wc|apply wf|apply wg|apply wh|(apply wi;apply rfl)|apply wj|apply wk|apply wl|apply wm|apply wn)
  refine s_loadw tk rfl rfl (r1 _) rfl rfl ?_
  repeat (first|(apply w1;apply rfl;apply rfl)|(apply w2;apply rfl)|(apply w3;apply rfl;apply rfl)|apply w4|apply w5|apply w6|apply w7|(apply w8;apply rfl)|(apply w9;apply rfl)|apply wa|apply wd|apply we|apply wb|apply wc|apply wf|apply wg|apply wh|(apply wi;apply rfl)|apply wj|apply wk|apply wl|apply wm|apply wn)
  refine s_call rfl rfl fk32 ?_
  refine ris_c (by omega) ?_
  repeat (first|(apply w1;apply rfl;apply rfl)|(apply w2;apply rfl)|(apply w3;apply rfl;apply rfl)|apply w4|apply w5|apply w6|apply w7|(apply w8;apply rfl)|(apply w9;apply rfl)|apply wa|apply wd|apply we|apply wb|apply wc|apply wf|apply wg|apply wh|(apply wi;apply rfl)|apply wj|apply wk|apply wl|apply wm|apply wn)
  refine aw_cond rfl (fun e => ?_) (fun e => ?_)
  · have e' : ris l i = false := by simpa using e
    rw [e'] at hK
    repeat (first|(apply w1;apply rfl;apply rfl)|(apply w2;apply rfl)|(apply w3;apply rfl;apply rfl)|apply w4|apply w5|apply w6|apply w7|(apply w8;apply rfl)|(apply w9;apply rfl)|apply wa|apply wd|apply we|apply wb|apply wc|apply wf|apply wg|apply wh|(apply wi;apply rfl)|apply wj|apply wk|apply wl|apply wm|apply wn)
    refine s_loadw tk rfl rfl (r1 _) rfl rfl ?_
    repeat (first|(apply w1;apply rfl;apply rfl)|(apply w2;apply rfl)|(apply w3;apply rfl;apply rfl)|apply w4|apply w5|apply w6|apply w7|(apply w8;apply rfl)|(apply w9;apply rfl)|apply wa|apply wd|apply we|apply wb|apply wc|apply wf|apply wg|apply wh|(apply wi;apply rfl)|apply wj|apply wk|apply wl|apply wm|apply wn)
    refine s_storew tk rfl rfl (put_same _ _ _) rfl rfl rfl rfl ?_
    repeat (first|(apply w1;apply rfl;apply rfl)|(apply w2;apply rfl)|(apply w3;apply rfl;apply rfl)|apply w4|apply w5|apply w6|apply w7|(apply w8;apply rfl)|(apply w9;apply rfl)|apply wa|apply wd|apply we|apply wb|apply wc|apply wf|apply wg|apply wh|(apply wi;apply rfl)|apply wj|apply wk|apply wl|apply wm|apply wn)
    exact rt2c rfl rfl (.inl (put_same _ _ _)) rfl rfl rfl (.refl _) (AHeap.sub_trans hsub (sub_new hnew (sub_new hnew (AHeap.sub_refl _)))) hK
  have e' : ris l i = true := by simpa using e
  have hi : 1 ≤ i ∧ i ≤ l.length := by
    have e2 := e'
    unfold ris at e2
    simp only [Bool.and_eq_true, decide_eq_true_eq] at e2
    exact e2.1
  rw [e', Bool.true_and, if_pos rfl] at hK
  repeat (first|(apply w1;apply rfl;apply rfl)|(apply w2;apply rfl)|(apply w3;apply rfl;apply rfl)|apply w4|apply w5|apply w6|apply w7|(apply w8;apply rfl)|(apply w9;apply rfl)|apply wa|apply wd|apply we|apply wb|apply wc|apply wf|apply wg|apply wh|(apply wi;apply rfl)|apply wj|apply wk|apply wl|apply wm|apply wn)
  refine s_loadw tk rfl rfl (r5 _) rfl rfl ?_
  repeat (first|(apply w1;apply rfl;apply rfl)|(apply w2;apply rfl)|(apply w3;apply rfl;apply rfl)|apply w4|apply w5|apply w6|apply w7|(apply w8;apply rfl)|(apply w9;apply rfl)|apply wa|apply wd|apply we|apply wb|apply wc|apply wf|apply wg|apply wh|(apply wi;apply rfl)|apply wj|apply wk|apply wl|apply wm|apply wn)
  refine s_call rfl rfl fk70 ?_
  refine rright_c hn ?_
  repeat (first|(apply w1;apply rfl;apply rfl)|(apply w2;apply rfl)|(apply w3;apply rfl;apply rfl)|apply w4|apply w5|apply w6|apply w7|(apply w8;apply rfl)|(apply w9;apply rfl)|apply wa|apply wd|apply we|apply wb|apply wc|apply wf|apply wg|apply wh|(apply wi;apply rfl)|apply wj|apply wk|apply wl|apply wm|apply wn)
  refine aw_cond rfl (fun g => ?_) (fun g => ?_)
  · have g' : nodeOk n = false := by simpa using g
    rw [g'] at hK
    repeat (first|(apply w1;apply rfl;apply rfl)|(apply w2;apply rfl)|(apply w3;apply rfl;apply rfl)|apply w4|apply w5|apply w6|apply w7|(apply w8;apply rfl)|(apply w9;apply rfl)|apply wa|apply wd|apply we|apply wb|apply wc|apply wf|apply wg|apply wh|(apply wi;apply rfl)|apply wj|apply wk|apply wl|apply wm|apply wn)
    refine s_loadw tk rfl rfl (r1 _) rfl rfl ?_
    repeat (first|(apply w1;apply rfl;apply rfl)|(apply w2;apply rfl)|(apply w3;apply rfl;apply rfl)|apply w4|apply w5|apply w6|apply w7|(apply w8;apply rfl)|(apply w9;apply rfl)|apply wa|apply wd|apply we|apply wb|apply wc|apply wf|apply wg|apply wh|(apply wi;apply rfl)|apply wj|apply wk|apply wl|apply wm|apply wn)
    refine s_storew tk rfl rfl (put_same _ _ _) rfl rfl rfl rfl ?_
    repeat (first|(apply w1;apply rfl;apply rfl)|(apply w2;apply rfl)|(apply w3;apply rfl;apply rfl)|apply w4|apply w5|apply w6|apply w7|(apply w8;apply rfl)|(apply w9;apply rfl)|apply wa|apply wd|apply we|apply wb|apply wc|apply wf|apply wg|apply wh|(apply wi;apply rfl)|apply wj|apply wk|apply wl|apply wm|apply wn)
    exact rt2c rfl rfl (.inl (put_same _ _ _)) rfl rfl rfl (.refl _) (AHeap.sub_trans hsub (sub_new hnew (sub_new hnew (AHeap.sub_refl _)))) hK
  · have g' : nodeOk n = true := by simpa using g
    rw [g'] at hK
    repeat (first|(apply w1;apply rfl;apply rfl)|(apply w2;apply rfl)|(apply w3;apply rfl;apply rfl)|apply w4|apply w5|apply w6|apply w7|(apply w8;apply rfl)|(apply w9;apply rfl)|apply wa|apply wd|apply we|apply wb|apply wc|apply wf|apply wg|apply wh|(apply wi;apply rfl)|apply wj|apply wk|apply wl|apply wm|apply wn)
    refine s_loadw tk rfl rfl (r1 _) rfl rfl ?_
    repeat (first|(apply w1;apply rfl;apply rfl)|(apply w2;apply rfl)|(apply w3;apply rfl;apply rfl)|apply w4|apply w5|apply w6|apply w7|(apply w8;apply rfl)|(apply w9;apply rfl)|apply wa|apply wd|apply we|apply wb|apply wc|apply wf|apply wg|apply wh|(apply wi;apply rfl)|apply wj|apply wk|apply wl|apply wm|apply wn)
    refine s_loadw tk rfl rfl (r5 _) rfl rfl ?_
    repeat (first|(apply w1;apply rfl;apply rfl)|(apply w2;apply rfl)|(apply w3;apply rfl;apply rfl)|apply w4|apply w5|apply w6|apply w7|(apply w8;apply rfl)|(apply w9;apply rfl)|apply wa|apply wd|apply we|apply wb|apply wc|apply wf|apply wg|apply wh|(apply wi;apply rfl)|apply wj|apply wk|apply wl|apply wm|apply wn)
    refine s_call rfl rfl fk39 ?_
    refine rwith_c hi hl ?_
    repeat (first|(apply w1;apply rfl;apply rfl)|(apply w2;apply rfl)|(apply w3;apply rfl;apply rfl)|apply w4|apply w5|apply w6|apply w7|(apply w8;apply rfl)|(apply w9;apply rfl)|apply wa|apply wd|apply we|apply wb|apply wc|apply wf|apply wg|apply wh|(apply wi;apply rfl)|apply wj|apply wk|apply wl|apply wm|apply wn)
    refine s_storew tk rfl rfl (put_same _ _ _) rfl rfl rfl rfl ?_
    repeat (first|(apply w1;apply rfl;apply rfl)|(apply w2;apply rfl)|(apply w3;apply rfl;apply rfl)|apply w4|apply w5|apply w6|apply w7|(apply w8;apply rfl)|(apply w9;apply rfl)|apply wa|apply wd|apply we|apply wb|apply wc|apply wf|apply wg|apply wh|(apply wi;apply rfl)|apply wj|apply wk|apply wl|apply wm|apply wn)
    exact rt2c rfl rfl (.inl (put_same _ _ _)) rfl rfl rfl (.refl _) (AHeap.sub_trans hsub (sub_new hnew (sub_new hnew (AHeap.sub_refl _)))) hK
end Abs
end Go.Proofs.Ytnjdkhfdjkjocaa
