import Derived.Test.YtpifnlodilcgkaaQ4
import Derived.Test.YtpifnlodilcgkaaA10
set_option linter.unusedVariables false
namespace Go.Proofs.Ytpifnlodilcgkaa
namespace Abs
set_option maxRecDepth 10000
attribute [local irreducible] AOps AW AP ACalls thenQ inBlk noGoto

def rstep (l : List Node) (op : List Int) (k : Nat) : Bool :=
  ((l.getD k Node.zero).ents.all fun e => ris l e.node) &&
    (!(decide ((l.getD k Node.zero).kind = 2) && decide ((k : Int) + 1 > 1) && (!decide (rlinks l (k + 1) = 1) || !rrooted l 24 (k + 1))) &&
     !((decide ((l.getD k Node.zero).kind = 1) || decide ((l.getD k Node.zero).kind = 3)) && decide (rlinks l (k + 1) = 0) && !op.contains ((k : Int) + 1)))
def rrightTo (l : List Node) (op : List Int) : Nat → Bool
  | 0 => true
  | k + 1 => rrightTo l op k && rstep l op k
def rright (l : List Node) (op : List Int) : Bool := decide ((rget l 1).kind = 2) && !decide (rlinks l 1 > 0) && rrightTo l op l.length
theorem rrightTo_le {l : List Node} {op : List Int} {k : Nat} (h : rrightTo l op (k + 1) = false) : ∀ j : Nat, k < j → rrightTo l op j = false
  | 0, h' => absurd h' (Nat.not_lt_zero _)
  | j + 1, h' => by
    rcases Nat.lt_or_ge k j with h2 | h2
    · simp only [rrightTo, rrightTo_le h j h2, Bool.false_and]
    · have : j = k := by omega
      subst this; exact h
set_option maxHeartbeats 1000000 in
theorem rtright_c {l : List Node} (hs : smallL l) {op : List Int} {o : Own} (hop : op.length ≤ 9223372036854775807) {H : AHeap} {K : AVal → AHeap → Prop} (hK : K (.b (rright l op)) H) : ACalls Try.prog 63 [.agg (encT l), .sl (encInts op) o] H K := by
  refine acalls_body Try.func63 rfl rfl rfl ?_
  have hl := hs.1
  have ll := ms_len l
  unfold rright at hK
  repeat (first|(apply w1;apply rfl;apply rfl)|(apply w2;apply rfl)|(apply w3;apply rfl;apply rfl)|apply w4|apply w5|apply w6|apply w7|(apply w8;apply rfl)|(apply w9;apply rfl)|apply wa|apply wd|apply we|apply wb|apply wc|apply wf|apply wg|apply wh|(apply wi;apply rfl)|apply wj|apply wk|apply wl|apply wm|apply wn)
  refine s_box rfl rfl rfl (fun b hb => ?_)
  have hsub : H.sub (H.put b (.cells (encT l))) := sub_new hb (AHeap.sub_refl _)
  have hrd : Rd (H.put b (.cells (encT l))) b (encT l) := .inl (put_same _ _ _)
  generalize H.put b (.cells (encT l)) = X at hsub hrd ⊢
  repeat (first|(apply w1;apply rfl;apply rfl)|(apply w2;apply rfl)|(apply w3;apply rfl;apply rfl)|apply w4|apply w5|apply w6|apply w7|(apply w8;apply rfl)|(apply w9;apply rfl)|apply wa|apply wd|apply we|apply wb|apply wc|apply wf|apply wg|apply wh|(apply wi;apply rfl)|apply wj|apply wk|apply wl|apply wm|apply wn)
  refine s_loadw tk rfl rfl hrd rfl rfl ?_
  repeat (first|(apply w1;apply rfl;apply rfl)|(apply w2;apply rfl)|(apply w3;apply rfl;apply rfl)|apply w4|apply w5|apply w6|apply w7|(apply w8;apply rfl)|(apply w9;apply rfl)|apply wa|apply wd|apply we|apply wb|apply wc|apply wf|apply wg|apply wh|(apply wi;apply rfl)|apply wj|apply wk|apply wl|apply wm|apply wn)
  refine s_call rfl rfl fk55 ?_
  refine rget_c (l := l) (by omega) ?_
  repeat (first|(apply w1;apply rfl;apply rfl)|(apply w2;apply rfl)|(apply w3;apply rfl;apply rfl)|apply w4|apply w5|apply w6|apply w7|(apply w8;apply rfl)|(apply w9;apply rfl)|apply wa|apply wd|apply we|apply wb|apply wc|apply wf|apply wg|apply wh|(apply wi;apply rfl)|apply wj|apply wk|apply wl|apply wm|apply wn)
  refine s_field tk rfl rfl rfl rfl rfl rfl ?_
  repeat (first|(apply w1;apply rfl;apply rfl)|(apply w2;apply rfl)|(apply w3;apply rfl;apply rfl)|apply w4|apply w5|apply w6|apply w7|(apply w8;apply rfl)|(apply w9;apply rfl)|apply wa|apply wd|apply we|apply wb|apply wc|apply wf|apply wg|apply wh|(apply wi;apply rfl)|apply wj|apply wk|apply wl|apply wm|apply wn)
  refine s_gsplit rfl rfl (fun g1 => ?_) (fun g1 => ?_)
  · rw [not_dec g1] at hK
    repeat (first|(apply w1;apply rfl;apply rfl)|(apply w2;apply rfl)|(apply w3;apply rfl;apply rfl)|apply w4|apply w5|apply w6|apply w7|(apply w8;apply rfl)|(apply w9;apply rfl)|apply wa|apply wd|apply we|apply wb|apply wc|apply wf|apply wg|apply wh|(apply wi;apply rfl)|apply wj|apply wk|apply wl|apply wm|apply wn)
    exact rt1 rfl rfl (.refl _) hsub hK
  rw [dec_not g1, Bool.true_and] at hK
  repeat (first|(apply w1;apply rfl;apply rfl)|(apply w2;apply rfl)|(apply w3;apply rfl;apply rfl)|apply w4|apply w5|apply w6|apply w7|(apply w8;apply rfl)|(apply w9;apply rfl)|apply wa|apply wd|apply we|apply wb|apply wc|apply wf|apply wg|apply wh|(apply wi;apply rfl)|apply wj|apply wk|apply wl|apply wm|apply wn)
  refine s_loadw tk rfl rfl hrd rfl rfl ?_
  repeat (first|(apply w1;apply rfl;apply rfl)|(apply w2;apply rfl)|(apply w3;apply rfl;apply rfl)|apply w4|apply w5|apply w6|apply w7|(apply w8;apply rfl)|(apply w9;apply rfl)|apply wa|apply wd|apply we|apply wb|apply wc|apply wf|apply wg|apply wh|(apply wi;apply rfl)|apply wj|apply wk|apply wl|apply wm|apply wn)
  refine s_call rfl rfl fk97 ?_
  refine rlinks_c hs ?_
  have hln : ((rtells l 1 l.length).length : Int) = rlinks l 1 := rfl
  rw [hln]
  repeat (first|(apply w1;apply rfl;apply rfl)|(apply w2;apply rfl)|(apply w3;apply rfl;apply rfl)|apply w4|apply w5|apply w6|apply w7|(apply w8;apply rfl)|(apply w9;apply rfl)|apply wa|apply wd|apply we|apply wb|apply wc|apply wf|apply wg|apply wh|(apply wi;apply rfl)|apply wj|apply wk|apply wl|apply wm|apply wn)
  refine aw_cond rfl (fun g2 => ?_) (fun g2 => ?_)
  · rw [g2] at hK
    repeat (first|(apply w1;apply rfl;apply rfl)|(apply w2;apply rfl)|(apply w3;apply rfl;apply rfl)|apply w4|apply w5|apply w6|apply w7|(apply w8;apply rfl)|(apply w9;apply rfl)|apply wa|apply wd|apply we|apply wb|apply wc|apply wf|apply wg|apply wh|(apply wi;apply rfl)|apply wj|apply wk|apply wl|apply wm|apply wn)
    exact rt1 rfl rfl (.refl _) hsub hK
  rw [g2, Bool.not_false, Bool.true_and] at hK
  repeat (first|(apply w1;apply rfl;apply rfl)|(apply w2;apply rfl)|(apply w3;apply rfl;apply rfl)|apply w4|apply w5|apply w6|apply w7|(apply w8;apply rfl)|(apply w9;apply rfl)|apply wa|apply wd|apply we|apply wb|apply wc|apply wf|apply wg|apply wh|(apply wi;apply rfl)|apply wj|apply wk|apply wl|apply wm|apply wn)
  refine aw_loop (fun k : Nat => k ≤ l.length ∧ rrightTo l op k = true) (fun k => [(1, .sl (encInts op) o), (2, .ptr b 0), (5, .i ((k : Int) + 1))]) (fun _ => X) (fun k => l.length - k) 0 ⟨Nat.zero_le _, rfl⟩ (Fr.sub_cons rfl (Fr.sub_cons rfl (Fr.sub_cons rfl (Fr.sub_nil _)))) (AHeap.sub_refl _) ?_
  rintro k ⟨hk, hsk⟩
  repeat (first|(apply w1;apply rfl;apply rfl)|(apply w2;apply rfl)|(apply w3;apply rfl;apply rfl)|apply w4|apply w5|apply w6|apply w7|(apply w8;apply rfl)|(apply w9;apply rfl)|apply wa|apply wd|apply we|apply wb|apply wc|apply wf|apply wg|apply wh|(apply wi;apply rfl)|apply wj|apply wk|apply wl|apply wm|apply wn|(apply s_load tk;apply rfl;apply rfl;(assumption);apply rfl;apply rfl)|(apply s_ept tk;apply rfl;apply rfl;apply rfl;apply rfl))
  refine aw_cond rfl (fun c => ?_) (fun c => ?_)
  case refine_2 =>
    have : k = l.length := by have := of_decide_eq_false c; omega
    rw [← this, hsk] at hK
    repeat (first|(apply w1;apply rfl;apply rfl)|(apply w2;apply rfl)|(apply w3;apply rfl;apply rfl)|apply w4|apply w5|apply w6|apply w7|(apply w8;apply rfl)|(apply w9;apply rfl)|apply wa|apply wd|apply we|apply wb|apply wc|apply wf|apply wg|apply wh|(apply wi;apply rfl)|apply wj|apply wk|apply wl|apply wm|apply wn|(apply s_load tk;apply rfl;apply rfl;(assumption);apply rfl;apply rfl)|(apply s_ept tk;apply rfl;apply rfl;apply rfl;apply rfl))
    exact rt1 rfl rfl (.refl _) hsub hK
  have c' : k < l.length := by have := of_decide_eq_true c; omega
  have hstep : rrightTo l op (k + 1) = rstep l op k := by simp only [rrightTo, hsk, Bool.true_and]
  have hfalse : rstep l op k = false → K (.b false) H := fun h => by
    rw [rrightTo_le (by rw [hstep]; exact h) l.length c'] at hK; exact hK
  have hg : l.getD k Node.zero = l[k] := by rw [List.getD_eq_getElem?_getD, List.getElem?_eq_getElem c']; rfl
  unfold rstep at hfalse hstep
  rw [hg] at hfalse hstep
  have hget := ms_get' l k c'
  have hnsm := (hs.2 _ (List.getElem_mem c')).2
  generalize l[k] = n at hfalse hstep hget hnsm
  have lk := kids_len n.ents
  repeat (first|(apply w1;apply rfl;apply rfl)|(apply w2;apply rfl)|(apply w3;apply rfl;apply rfl)|apply w4|apply w5|apply w6|apply w7|(apply w8;apply rfl)|(apply w9;apply rfl)|apply wa|apply wd|apply we|apply wb|apply wc|apply wf|apply wg|apply wh|(apply wi;apply rfl)|apply wj|apply wk|apply wl|apply wm|apply wn|(apply s_load tk;apply rfl;apply rfl;(assumption);apply rfl;apply rfl)|(apply s_ept tk;apply rfl;apply rfl;apply rfl;apply rfl))
  refine s_sub rfl rfl rfl (by omega) ?_
  repeat (first|(apply w1;apply rfl;apply rfl)|(apply w2;apply rfl)|(apply w3;apply rfl;apply rfl)|apply w4|apply w5|apply w6|apply w7|(apply w8;apply rfl)|(apply w9;apply rfl)|apply wa|apply wd|apply we|apply wb|apply wc|apply wf|apply wg|apply wh|(apply wi;apply rfl)|apply wj|apply wk|apply wl|apply wm|apply wn|(apply s_load tk;apply rfl;apply rfl;(assumption);apply rfl;apply rfl)|(apply s_ept tk;apply rfl;apply rfl;apply rfl;apply rfl))
  refine s_index tk rfl rfl rfl rfl (by omega) (show (l.map encM)[((k : Int) + 1 - 1).toNat]? = some (encM n) by rw [show ((k : Int) + 1 - 1).toNat = k by omega]; exact hget) rfl ?_
  repeat (first|(apply w1;apply rfl;apply rfl)|(apply w2;apply rfl)|(apply w3;apply rfl;apply rfl)|apply w4|apply w5|apply w6|apply w7|(apply w8;apply rfl)|(apply w9;apply rfl)|apply wa|apply wd|apply we|apply wb|apply wc|apply wf|apply wg|apply wh|(apply wi;apply rfl)|apply wj|apply wk|apply wl|apply wm|apply wn|(apply s_load tk;apply rfl;apply rfl;(assumption);apply rfl;apply rfl)|(apply s_ept tk;apply rfl;apply rfl;apply rfl;apply rfl))
  refine s_epta (ds := encM n) tk rfl rfl rfl (Nat.le_refl 8) rfl ?_
  repeat (first|(apply w1;apply rfl;apply rfl)|(apply w2;apply rfl)|(apply w3;apply rfl;apply rfl)|apply w4|apply w5|apply w6|apply w7|(apply w8;apply rfl)|(apply w9;apply rfl)|apply wa|apply wd|apply we|apply wb|apply wc|apply wf|apply wg|apply wh|(apply wi;apply rfl)|apply wj|apply wk|apply wl|apply wm|apply wn|(apply s_load tk;apply rfl;apply rfl;(assumption);apply rfl;apply rfl)|(apply s_ept tk;apply rfl;apply rfl;apply rfl;apply rfl))
  refine s_alloc tk rfl rfl rfl (fun b6 h6 => ?_)
  have n6 : b ≠ b6 := fun e => by rcases hrd with h | h <;> (rw [e, h6] at h; cases h)
  repeat (first|(apply w1;apply rfl;apply rfl)|(apply w2;apply rfl)|(apply w3;apply rfl;apply rfl)|apply w4|apply w5|apply w6|apply w7|(apply w8;apply rfl)|(apply w9;apply rfl)|apply wa|apply wd|apply we|apply wb|apply wc|apply wf|apply wg|apply wh|(apply wi;apply rfl)|apply wj|apply wk|apply wl|apply wm|apply wn)
  refine s_storew tk rfl rfl (put_same _ _ _) rfl rfl rfl rfl ?_
  rw [put_put]
  have hr2 : Rd (X.put b6 (.cells (encM n))) b (encT l) := by unfold Rd; rw [put_ne n6]; exact hrd
  have hr6 : Rd (X.put b6 (.cells (encM n))) b6 (encM n) := .inl (put_same _ _ _)
  have hsx : X.sub (X.put b6 (.cells (encM n))) := sub_new h6 (AHeap.sub_refl _)
  have hsub2 := AHeap.sub_trans hsub hsx
  generalize X.put b6 (.cells (encM n)) = Y at hr2 hr6 hsx hsub2 ⊢
  repeat (first|(apply w1;apply rfl;apply rfl)|(apply w2;apply rfl)|(apply w3;apply rfl;apply rfl)|apply w4|apply w5|apply w6|apply w7|(apply w8;apply rfl)|(apply w9;apply rfl)|apply wa|apply wd|apply we|apply wb|apply wc|apply wf|apply wg|apply wh|(apply wi;apply rfl)|apply wj|apply wk|apply wl|apply wm|apply wn|(apply s_load tk;apply rfl;apply rfl;(assumption);apply rfl;apply rfl)|(apply s_ept tk;apply rfl;apply rfl;apply rfl;apply rfl))
  refine aw_loop (fun j : Nat => j ≤ n.ents.length ∧ ((n.ents.take j).all fun e => ris l e.node) = true) (fun j => [(1, .sl (encInts op) o), (2, .ptr b 0), (5, .i ((k : Int) + 1)), (6, .ptr b6 0), (7, .i j)]) (fun _ => Y) (fun j => n.ents.length - j) 0 ⟨Nat.zero_le _, rfl⟩
    (Fr.sub_cons rfl (Fr.sub_cons rfl (Fr.sub_cons rfl (Fr.sub_cons rfl (Fr.sub_cons rfl (Fr.sub_nil _)))))) (AHeap.sub_refl _) ?_
  rintro j ⟨hj, hja⟩
  repeat (first|(apply w1;apply rfl;apply rfl)|(apply w2;apply rfl)|(apply w3;apply rfl;apply rfl)|apply w4|apply w5|apply w6|apply w7|(apply w8;apply rfl)|(apply w9;apply rfl)|apply wa|apply wd|apply we|apply wb|apply wc|apply wf|apply wg|apply wh|(apply wi;apply rfl)|apply wj|apply wk|apply wl|apply wm|apply wn|(apply s_load tk;apply rfl;apply rfl;(assumption);apply rfl;apply rfl)|(apply s_ept tk;apply rfl;apply rfl;apply rfl;apply rfl))
  refine aw_cond rfl (fun c2 => ?_) (fun c2 => ?_)
  · have c2' : j < n.ents.length := by have := of_decide_eq_true c2; omega
    repeat (first|(apply w1;apply rfl;apply rfl)|(apply w2;apply rfl)|(apply w3;apply rfl;apply rfl)|apply w4|apply w5|apply w6|apply w7|(apply w8;apply rfl)|(apply w9;apply rfl)|apply wa|apply wd|apply we|apply wb|apply wc|apply wf|apply wg|apply wh|(apply wi;apply rfl)|apply wj|apply wk|apply wl|apply wm|apply wn|(apply s_load tk;apply rfl;apply rfl;(assumption);apply rfl;apply rfl)|(apply s_ept tk;apply rfl;apply rfl;apply rfl;apply rfl))
    refine aw_prot [b, b6] (allc hr2 (allc hr6 (allc0 _))) ?_
    have ro2 := prot_get (bs := [b, b6]) (by simp) hr2
    have ro6 := prot_get (bs := [b, b6]) (by simp) hr6
    refine aw_plan mixed (.take 0 (.take 1 (.take 2 (.take 3 (.take 4 (.take 5 (.one 6 (.take 7 .done)))))))) (by kernel_rfl) ?_
    repeat (first|(apply d1;apply rfl;apply rfl;apply rfl;apply rfl)|(apply d2;apply rfl;apply rfl;apply rfl)|apply d3|(apply d5;apply rfl;apply rfl;apply rfl)|(apply d_ro;apply rfl;apply rfl;apply rfl;apply rfl;(assumption);apply rfl;apply rfl)|(apply d_ept;apply rfl;apply rfl;apply rfl;apply rfl;apply rfl;apply rfl))
    refine d_roa rfl rfl rfl rfl ro2 rfl (Nat.le_refl 1) rfl ?_
    repeat (first|(apply d1;apply rfl;apply rfl;apply rfl;apply rfl)|(apply d2;apply rfl;apply rfl;apply rfl)|apply d3|(apply d5;apply rfl;apply rfl;apply rfl)|(apply d_ro;apply rfl;apply rfl;apply rfl;apply rfl;(assumption);apply rfl;apply rfl)|(apply d_ept;apply rfl;apply rfl;apply rfl;apply rfl;apply rfl;apply rfl))
    refine d_index rfl rfl rfl rfl rfl rfl (by omega) (kids_get n.ents j c2') rfl ?_
    repeat (first|(apply d1;apply rfl;apply rfl;apply rfl;apply rfl)|(apply d2;apply rfl;apply rfl;apply rfl)|apply d3|(apply d5;apply rfl;apply rfl;apply rfl)|(apply d_ro;apply rfl;apply rfl;apply rfl;apply rfl;(assumption);apply rfl;apply rfl)|(apply d_ept;apply rfl;apply rfl;apply rfl;apply rfl;apply rfl;apply rfl))
    refine d4 rfl ?_
    refine s_call rfl rfl fk89 ?_
    refine ris_c (l := l) (by omega) ?_
    refine w4 ?_
    repeat (first|(apply d1;apply rfl;apply rfl;apply rfl;apply rfl)|(apply d2;apply rfl;apply rfl;apply rfl)|apply d3|(apply d5;apply rfl;apply rfl;apply rfl)|(apply d_ro;apply rfl;apply rfl;apply rfl;apply rfl;(assumption);apply rfl;apply rfl)|(apply d_ept;apply rfl;apply rfl;apply rfl;apply rfl;apply rfl;apply rfl))
    refine prot_done ?_
    repeat (first|(apply w1;apply rfl;apply rfl)|(apply w2;apply rfl)|(apply w3;apply rfl;apply rfl)|apply w4|apply w5|apply w6|apply w7|(apply w8;apply rfl)|(apply w9;apply rfl)|apply wa|apply wd|apply we|apply wb|apply wc|apply wf|apply wg|apply wh|(apply wi;apply rfl)|apply wj|apply wk|apply wl|apply wm|apply wn|(apply s_load tk;apply rfl;apply rfl;(assumption);apply rfl;apply rfl)|(apply s_ept tk;apply rfl;apply rfl;apply rfl;apply rfl))
    refine aw_cond rfl (fun e => ?_) (fun e => ?_)
    · have e' : ris l n.ents[j].node = false := by simpa using e
      repeat (first|(apply w1;apply rfl;apply rfl)|(apply w2;apply rfl)|(apply w3;apply rfl;apply rfl)|apply w4|apply w5|apply w6|apply w7|(apply w8;apply rfl)|(apply w9;apply rfl)|apply wa|apply wd|apply we|apply wb|apply wc|apply wf|apply wg|apply wh|(apply wi;apply rfl)|apply wj|apply wk|apply wl|apply wm|apply wn|(apply s_load tk;apply rfl;apply rfl;(assumption);apply rfl;apply rfl)|(apply s_ept tk;apply rfl;apply rfl;apply rfl;apply rfl))
      refine rt1 rfl rfl (.refl _) hsub2 (hfalse ?_)
      have : (n.ents.all fun e => ris l e.node) = false := by
        refine Bool.eq_false_iff.2 fun h => ?_
        rw [List.all_eq_true.1 h _ (List.getElem_mem c2')] at e'
        cases e'
      rw [this, Bool.false_and]
    · have e' : ris l n.ents[j].node = true := by simpa using e
      repeat (first|(apply w1;apply rfl;apply rfl)|(apply w2;apply rfl)|(apply w3;apply rfl;apply rfl)|apply w4|apply w5|apply w6|apply w7|(apply w8;apply rfl)|(apply w9;apply rfl)|apply wa|apply wd|apply we|apply wb|apply wc|apply wf|apply wg|apply wh|(apply wi;apply rfl)|apply wj|apply wk|apply wl|apply wm|apply wn|(apply s_load tk;apply rfl;apply rfl;(assumption);apply rfl;apply rfl)|(apply s_ept tk;apply rfl;apply rfl;apply rfl;apply rfl))
      refine s_add rfl rfl rfl (by omega) ?_
      repeat (first|(apply w1;apply rfl;apply rfl)|(apply w2;apply rfl)|(apply w3;apply rfl;apply rfl)|apply w4|apply w5|apply w6|apply w7|(apply w8;apply rfl)|(apply w9;apply rfl)|apply wa|apply wd|apply we|apply wb|apply wc|apply wf|apply wg|apply wh|(apply wi;apply rfl)|apply wj|apply wk|apply wl|apply wm|apply wn|(apply s_load tk;apply rfl;apply rfl;(assumption);apply rfl;apply rfl)|(apply s_ept tk;apply rfl;apply rfl;apply rfl;apply rfl))
      refine ⟨j + 1, ⟨c2', ?_⟩, by omega, Fr.sub_cons rfl (Fr.sub_cons rfl (Fr.sub_cons rfl (Fr.sub_cons rfl (Fr.sub_cons rfl (Fr.sub_nil _))))), AHeap.sub_refl _⟩
      rw [List.take_add_one, List.getElem?_eq_getElem c2', List.all_append, hja]
      simp [e']
  have hje : j = n.ents.length := by have := of_decide_eq_false c2; omega
  subst hje
  rw [List.take_length] at hja
  rw [hja, Bool.true_and] at hfalse hstep
  clear hja
  have hgo : (!((decide (n.kind = 1) || decide (n.kind = 3)) && decide (rlinks l (k + 1) = 0) && !op.contains ((k : Int) + 1))) = true → (!(decide (n.kind = 2) && decide ((k : Int) + 1 > 1) && (!decide (rlinks l (k + 1) = 1) || !rrooted l 24 (k + 1)))) = true → rrightTo l op (k + 1) = true := fun h1 h2 => by rw [hstep, h1, h2]; rfl
  have hfA : (decide (n.kind = 2) && decide ((k : Int) + 1 > 1) && (!decide (rlinks l (k + 1) = 1) || !rrooted l 24 (k + 1))) = true → K (.b false) H := fun h => hfalse (by rw [h]; rfl)
  have hfB : ((decide (n.kind = 1) || decide (n.kind = 3)) && decide (rlinks l (k + 1) = 0) && !op.contains ((k : Int) + 1)) = true → K (.b false) H := fun h => hfalse (by rw [h, Bool.not_true, Bool.and_false])
  clear hfalse hstep
  repeat (first|(apply w1;apply rfl;apply rfl)|(apply w2;apply rfl)|(apply w3;apply rfl;apply rfl)|apply w4|apply w5|apply w6|apply w7|(apply w8;apply rfl)|(apply w9;apply rfl)|apply wa|apply wd|apply we|apply wb|apply wc|apply wf|apply wg|apply wh|(apply wi;apply rfl)|apply wj|apply wk|apply wl|apply wm|apply wn|(apply s_load tk;apply rfl;apply rfl;(assumption);apply rfl;apply rfl)|(apply s_ept tk;apply rfl;apply rfl;apply rfl;apply rfl))
  refine s_loadw tk rfl rfl hr2 rfl rfl ?_
  repeat (first|(apply w1;apply rfl;apply rfl)|(apply w2;apply rfl)|(apply w3;apply rfl;apply rfl)|apply w4|apply w5|apply w6|apply w7|(apply w8;apply rfl)|(apply w9;apply rfl)|apply wa|apply wd|apply we|apply wb|apply wc|apply wf|apply wg|apply wh|(apply wi;apply rfl)|apply wj|apply wk|apply wl|apply wm|apply wn|(apply s_load tk;apply rfl;apply rfl;(assumption);apply rfl;apply rfl)|(apply s_ept tk;apply rfl;apply rfl;apply rfl;apply rfl))
  refine s_call rfl rfl fk97 ?_
  refine rlinks_c hs ?_
  have hln2 : ((rtells l ((k : Int) + 1) l.length).length : Int) = rlinks l ((k : Int) + 1) := rfl
  rw [hln2]
  generalize hL : rlinks l ((k : Int) + 1) = L at hgo hfA hfB ⊢
  repeat (first|(apply w1;apply rfl;apply rfl)|(apply w2;apply rfl)|(apply w3;apply rfl;apply rfl)|apply w4|apply w5|apply w6|apply w7|(apply w8;apply rfl)|(apply w9;apply rfl)|apply wa|apply wd|apply we|apply wb|apply wc|apply wf|apply wg|apply wh|(apply wi;apply rfl)|apply wj|apply wk|apply wl|apply wm|apply wn|(apply s_load tk;apply rfl;apply rfl;(assumption);apply rfl;apply rfl)|(apply s_ept tk;apply rfl;apply rfl;apply rfl;apply rfl))
  refine s_gsplit rfl rfl (fun e1 => ?_) (fun e1 => ?_)
  · repeat (first|(apply w1;apply rfl;apply rfl)|(apply w2;apply rfl)|(apply w3;apply rfl;apply rfl)|apply w4|apply w5|apply w6|apply w7|(apply w8;apply rfl)|(apply w9;apply rfl)|apply wa|apply wd|apply we|apply wb|apply wc|apply wf|apply wg|apply wh|(apply wi;apply rfl)|apply wj|apply wk|apply wl|apply wm|apply wn|(apply s_load tk;apply rfl;apply rfl;(assumption);apply rfl;apply rfl)|(apply s_ept tk;apply rfl;apply rfl;apply rfl;apply rfl))
    refine s_gsplit rfl rfl (fun e2 => ?_) (fun e2 => ?_)
    · repeat (first|(apply w1;apply rfl;apply rfl)|(apply w2;apply rfl)|(apply w3;apply rfl;apply rfl)|apply w4|apply w5|apply w6|apply w7|(apply w8;apply rfl)|(apply w9;apply rfl)|apply wa|apply wd|apply we|apply wb|apply wc|apply wf|apply wg|apply wh|(apply wi;apply rfl)|apply wj|apply wk|apply wl|apply wm|apply wn|(apply s_load tk;apply rfl;apply rfl;(assumption);apply rfl;apply rfl)|(apply s_ept tk;apply rfl;apply rfl;apply rfl;apply rfl))
      refine s_gsplit rfl rfl (fun e3 => ?_) (fun e3 => ?_)
      · repeat (first|(apply w1;apply rfl;apply rfl)|(apply w2;apply rfl)|(apply w3;apply rfl;apply rfl)|apply w4|apply w5|apply w6|apply w7|(apply w8;apply rfl)|(apply w9;apply rfl)|apply wa|apply wd|apply we|apply wb|apply wc|apply wf|apply wg|apply wh|(apply wi;apply rfl)|apply wj|apply wk|apply wl|apply wm|apply wn|(apply s_load tk;apply rfl;apply rfl;(assumption);apply rfl;apply rfl)|(apply s_ept tk;apply rfl;apply rfl;apply rfl;apply rfl))
        exact rt1 rfl rfl (.refl _) hsub2 (hfA (by rw [e1, e2, e3]; rfl))
      · repeat (first|(apply w1;apply rfl;apply rfl)|(apply w2;apply rfl)|(apply w3;apply rfl;apply rfl)|apply w4|apply w5|apply w6|apply w7|(apply w8;apply rfl)|(apply w9;apply rfl)|apply wa|apply wd|apply we|apply wb|apply wc|apply wf|apply wg|apply wh|(apply wi;apply rfl)|apply wj|apply wk|apply wl|apply wm|apply wn|(apply s_load tk;apply rfl;apply rfl;(assumption);apply rfl;apply rfl)|(apply s_ept tk;apply rfl;apply rfl;apply rfl;apply rfl))
        refine s_loadw tk rfl rfl hr2 rfl rfl ?_
        repeat (first|(apply w1;apply rfl;apply rfl)|(apply w2;apply rfl)|(apply w3;apply rfl;apply rfl)|apply w4|apply w5|apply w6|apply w7|(apply w8;apply rfl)|(apply w9;apply rfl)|apply wa|apply wd|apply we|apply wb|apply wc|apply wf|apply wg|apply wh|(apply wi;apply rfl)|apply wj|apply wk|apply wl|apply wm|apply wn|(apply s_load tk;apply rfl;apply rfl;(assumption);apply rfl;apply rfl)|(apply s_ept tk;apply rfl;apply rfl;apply rfl;apply rfl))
        refine s_call rfl rfl fk98 ?_
        refine rrooted_c hs ?_
        repeat (first|(apply w1;apply rfl;apply rfl)|(apply w2;apply rfl)|(apply w3;apply rfl;apply rfl)|apply w4|apply w5|apply w6|apply w7|(apply w8;apply rfl)|(apply w9;apply rfl)|apply wa|apply wd|apply we|apply wb|apply wc|apply wf|apply wg|apply wh|(apply wi;apply rfl)|apply wj|apply wk|apply wl|apply wm|apply wn|(apply s_load tk;apply rfl;apply rfl;(assumption);apply rfl;apply rfl)|(apply s_ept tk;apply rfl;apply rfl;apply rfl;apply rfl))
        refine aw_cond rfl (fun e4 => ?_) (fun e4 => ?_)
        · repeat (first|(apply w1;apply rfl;apply rfl)|(apply w2;apply rfl)|(apply w3;apply rfl;apply rfl)|apply w4|apply w5|apply w6|apply w7|(apply w8;apply rfl)|(apply w9;apply rfl)|apply wa|apply wd|apply we|apply wb|apply wc|apply wf|apply wg|apply wh|(apply wi;apply rfl)|apply wj|apply wk|apply wl|apply wm|apply wn|(apply s_load tk;apply rfl;apply rfl;(assumption);apply rfl;apply rfl)|(apply s_ept tk;apply rfl;apply rfl;apply rfl;apply rfl))
          exact rt1 rfl rfl (.refl _) hsub2 (hfA (by rw [e1, e2, e3, e4]; rfl))
        · have hA : (!(decide (n.kind = 2) && decide ((k : Int) + 1 > 1) && (!decide (L = 1) || !rrooted l 24 (k + 1)))) = true := by rw [e1, e2, e3, e4]; rfl
          repeat (first|(apply w1;apply rfl;apply rfl)|(apply w2;apply rfl)|(apply w3;apply rfl;apply rfl)|apply w4|apply w5|apply w6|apply w7|(apply w8;apply rfl)|(apply w9;apply rfl)|apply wa|apply wd|apply we|apply wb|apply wc|apply wf|apply wg|apply wh|(apply wi;apply rfl)|apply wj|apply wk|apply wl|apply wm|apply wn|(apply s_load tk;apply rfl;apply rfl;(assumption);apply rfl;apply rfl)|(apply s_ept tk;apply rfl;apply rfl;apply rfl;apply rfl))
          refine s_gsplit rfl rfl (fun f1 => ?_) (fun f1 => ?_)
          · have hk13 : (decide (n.kind = 1) || decide (n.kind = 3)) = true := by rw [f1]; rfl
            repeat (first|(apply w1;apply rfl;apply rfl)|(apply w2;apply rfl)|(apply w3;apply rfl;apply rfl)|apply w4|apply w5|apply w6|apply w7|(apply w8;apply rfl)|(apply w9;apply rfl)|apply wa|apply wd|apply we|apply wb|apply wc|apply wf|apply wg|apply wh|(apply wi;apply rfl)|apply wj|apply wk|apply wl|apply wm|apply wn|(apply s_load tk;apply rfl;apply rfl;(assumption);apply rfl;apply rfl)|(apply s_ept tk;apply rfl;apply rfl;apply rfl;apply rfl))
            refine s_gsplit rfl rfl (fun f3 => ?_) (fun f3 => ?_)
            · repeat (first|(apply w1;apply rfl;apply rfl)|(apply w2;apply rfl)|(apply w3;apply rfl;apply rfl)|apply w4|apply w5|apply w6|apply w7|(apply w8;apply rfl)|(apply w9;apply rfl)|apply wa|apply wd|apply we|apply wb|apply wc|apply wf|apply wg|apply wh|(apply wi;apply rfl)|apply wj|apply wk|apply wl|apply wm|apply wn|(apply s_load tk;apply rfl;apply rfl;(assumption);apply rfl;apply rfl)|(apply s_ept tk;apply rfl;apply rfl;apply rfl;apply rfl))
              refine s_call rfl rfl fk99 ?_
              refine rinl_c hop ?_
              repeat (first|(apply w1;apply rfl;apply rfl)|(apply w2;apply rfl)|(apply w3;apply rfl;apply rfl)|apply w4|apply w5|apply w6|apply w7|(apply w8;apply rfl)|(apply w9;apply rfl)|apply wa|apply wd|apply we|apply wb|apply wc|apply wf|apply wg|apply wh|(apply wi;apply rfl)|apply wj|apply wk|apply wl|apply wm|apply wn|(apply s_load tk;apply rfl;apply rfl;(assumption);apply rfl;apply rfl)|(apply s_ept tk;apply rfl;apply rfl;apply rfl;apply rfl))
              refine aw_cond rfl (fun f4 => ?_) (fun f4 => ?_)
              · repeat (first|(apply w1;apply rfl;apply rfl)|(apply w2;apply rfl)|(apply w3;apply rfl;apply rfl)|apply w4|apply w5|apply w6|apply w7|(apply w8;apply rfl)|(apply w9;apply rfl)|apply wa|apply wd|apply we|apply wb|apply wc|apply wf|apply wg|apply wh|(apply wi;apply rfl)|apply wj|apply wk|apply wl|apply wm|apply wn|(apply s_load tk;apply rfl;apply rfl;(assumption);apply rfl;apply rfl)|(apply s_ept tk;apply rfl;apply rfl;apply rfl;apply rfl))
                exact rt1 rfl rfl (.refl _) hsub2 (hfB (by rw [hk13, f3, f4]; rfl))
              · repeat (first|(apply w1;apply rfl;apply rfl)|(apply w2;apply rfl)|(apply w3;apply rfl;apply rfl)|apply w4|apply w5|apply w6|apply w7|(apply w8;apply rfl)|(apply w9;apply rfl)|apply wa|apply wd|apply we|apply wb|apply wc|apply wf|apply wg|apply wh|(apply wi;apply rfl)|apply wj|apply wk|apply wl|apply wm|apply wn|(apply s_load tk;apply rfl;apply rfl;(assumption);apply rfl;apply rfl)|(apply s_ept tk;apply rfl;apply rfl;apply rfl;apply rfl))
                refine s_add rfl rfl rfl (by omega) ?_
                repeat (first|(apply w1;apply rfl;apply rfl)|(apply w2;apply rfl)|(apply w3;apply rfl;apply rfl)|apply w4|apply w5|apply w6|apply w7|(apply w8;apply rfl)|(apply w9;apply rfl)|apply wa|apply wd|apply we|apply wb|apply wc|apply wf|apply wg|apply wh|(apply wi;apply rfl)|apply wj|apply wk|apply wl|apply wm|apply wn|(apply s_load tk;apply rfl;apply rfl;(assumption);apply rfl;apply rfl)|(apply s_ept tk;apply rfl;apply rfl;apply rfl;apply rfl))
                exact ⟨k + 1, ⟨c', hgo (by rw [hk13, f3, f4]; rfl) hA⟩, by omega, Fr.sub_cons rfl (Fr.sub_cons rfl (Fr.sub_cons rfl (Fr.sub_nil _))), hsx⟩
            · repeat (first|(apply w1;apply rfl;apply rfl)|(apply w2;apply rfl)|(apply w3;apply rfl;apply rfl)|apply w4|apply w5|apply w6|apply w7|(apply w8;apply rfl)|(apply w9;apply rfl)|apply wa|apply wd|apply we|apply wb|apply wc|apply wf|apply wg|apply wh|(apply wi;apply rfl)|apply wj|apply wk|apply wl|apply wm|apply wn|(apply s_load tk;apply rfl;apply rfl;(assumption);apply rfl;apply rfl)|(apply s_ept tk;apply rfl;apply rfl;apply rfl;apply rfl))
              refine s_add rfl rfl rfl (by omega) ?_
              repeat (first|(apply w1;apply rfl;apply rfl)|(apply w2;apply rfl)|(apply w3;apply rfl;apply rfl)|apply w4|apply w5|apply w6|apply w7|(apply w8;apply rfl)|(apply w9;apply rfl)|apply wa|apply wd|apply we|apply wb|apply wc|apply wf|apply wg|apply wh|(apply wi;apply rfl)|apply wj|apply wk|apply wl|apply wm|apply wn|(apply s_load tk;apply rfl;apply rfl;(assumption);apply rfl;apply rfl)|(apply s_ept tk;apply rfl;apply rfl;apply rfl;apply rfl))
              exact ⟨k + 1, ⟨c', hgo (by rw [hk13, f3]; rfl) hA⟩, by omega, Fr.sub_cons rfl (Fr.sub_cons rfl (Fr.sub_cons rfl (Fr.sub_nil _))), hsx⟩
          · repeat (first|(apply w1;apply rfl;apply rfl)|(apply w2;apply rfl)|(apply w3;apply rfl;apply rfl)|apply w4|apply w5|apply w6|apply w7|(apply w8;apply rfl)|(apply w9;apply rfl)|apply wa|apply wd|apply we|apply wb|apply wc|apply wf|apply wg|apply wh|(apply wi;apply rfl)|apply wj|apply wk|apply wl|apply wm|apply wn|(apply s_load tk;apply rfl;apply rfl;(assumption);apply rfl;apply rfl)|(apply s_ept tk;apply rfl;apply rfl;apply rfl;apply rfl))
            refine s_gsplit rfl rfl (fun f2 => ?_) (fun f2 => ?_)
            · have hk13 : (decide (n.kind = 1) || decide (n.kind = 3)) = true := by rw [f1, f2]; rfl
              repeat (first|(apply w1;apply rfl;apply rfl)|(apply w2;apply rfl)|(apply w3;apply rfl;apply rfl)|apply w4|apply w5|apply w6|apply w7|(apply w8;apply rfl)|(apply w9;apply rfl)|apply wa|apply wd|apply we|apply wb|apply wc|apply wf|apply wg|apply wh|(apply wi;apply rfl)|apply wj|apply wk|apply wl|apply wm|apply wn|(apply s_load tk;apply rfl;apply rfl;(assumption);apply rfl;apply rfl)|(apply s_ept tk;apply rfl;apply rfl;apply rfl;apply rfl))
              refine s_gsplit rfl rfl (fun f3 => ?_) (fun f3 => ?_)
              · repeat (first|(apply w1;apply rfl;apply rfl)|(apply w2;apply rfl)|(apply w3;apply rfl;apply rfl)|apply w4|apply w5|apply w6|apply w7|(apply w8;apply rfl)|(apply w9;apply rfl)|apply wa|apply wd|apply we|apply wb|apply wc|apply wf|apply wg|apply wh|(apply wi;apply rfl)|apply wj|apply wk|apply wl|apply wm|apply wn|(apply s_load tk;apply rfl;apply rfl;(assumption);apply rfl;apply rfl)|(apply s_ept tk;apply rfl;apply rfl;apply rfl;apply rfl))
                refine s_call rfl rfl fk99 ?_
                refine rinl_c hop ?_
                repeat (first|(apply w1;apply rfl;apply rfl)|(apply w2;apply rfl)|(apply w3;apply rfl;apply rfl)|apply w4|apply w5|apply w6|apply w7|(apply w8;apply rfl)|(apply w9;apply rfl)|apply wa|apply wd|apply we|apply wb|apply wc|apply wf|apply wg|apply wh|(apply wi;apply rfl)|apply wj|apply wk|apply wl|apply wm|apply wn|(apply s_load tk;apply rfl;apply rfl;(assumption);apply rfl;apply rfl)|(apply s_ept tk;apply rfl;apply rfl;apply rfl;apply rfl))
                refine aw_cond rfl (fun f4 => ?_) (fun f4 => ?_)
                · repeat (first|(apply w1;apply rfl;apply rfl)|(apply w2;apply rfl)|(apply w3;apply rfl;apply rfl)|apply w4|apply w5|apply w6|apply w7|(apply w8;apply rfl)|(apply w9;apply rfl)|apply wa|apply wd|apply we|apply wb|apply wc|apply wf|apply wg|apply wh|(apply wi;apply rfl)|apply wj|apply wk|apply wl|apply wm|apply wn|(apply s_load tk;apply rfl;apply rfl;(assumption);apply rfl;apply rfl)|(apply s_ept tk;apply rfl;apply rfl;apply rfl;apply rfl))
                  exact rt1 rfl rfl (.refl _) hsub2 (hfB (by rw [hk13, f3, f4]; rfl))
                · repeat (first|(apply w1;apply rfl;apply rfl)|(apply w2;apply rfl)|(apply w3;apply rfl;apply rfl)|apply w4|apply w5|apply w6|apply w7|(apply w8;apply rfl)|(apply w9;apply rfl)|apply wa|apply wd|apply we|apply wb|apply wc|apply wf|apply wg|apply wh|(apply wi;apply rfl)|apply wj|apply wk|apply wl|apply wm|apply wn|(apply s_load tk;apply rfl;apply rfl;(assumption);apply rfl;apply rfl)|(apply s_ept tk;apply rfl;apply rfl;apply rfl;apply rfl))
                  refine s_add rfl rfl rfl (by omega) ?_
                  repeat (first|(apply w1;apply rfl;apply rfl)|(apply w2;apply rfl)|(apply w3;apply rfl;apply rfl)|apply w4|apply w5|apply w6|apply w7|(apply w8;apply rfl)|(apply w9;apply rfl)|apply wa|apply wd|apply we|apply wb|apply wc|apply wf|apply wg|apply wh|(apply wi;apply rfl)|apply wj|apply wk|apply wl|apply wm|apply wn|(apply s_load tk;apply rfl;apply rfl;(assumption);apply rfl;apply rfl)|(apply s_ept tk;apply rfl;apply rfl;apply rfl;apply rfl))
                  exact ⟨k + 1, ⟨c', hgo (by rw [hk13, f3, f4]; rfl) hA⟩, by omega, Fr.sub_cons rfl (Fr.sub_cons rfl (Fr.sub_cons rfl (Fr.sub_nil _))), hsx⟩
              · repeat (first|(apply w1;apply rfl;apply rfl)|(apply w2;apply rfl)|(apply w3;apply rfl;apply rfl)|apply w4|apply w5|apply w6|apply w7|(apply w8;apply rfl)|(apply w9;apply rfl)|apply wa|apply wd|apply we|apply wb|apply wc|apply wf|apply wg|apply wh|(apply wi;apply rfl)|apply wj|apply wk|apply wl|apply wm|apply wn|(apply s_load tk;apply rfl;apply rfl;(assumption);apply rfl;apply rfl)|(apply s_ept tk;apply rfl;apply rfl;apply rfl;apply rfl))
                refine s_add rfl rfl rfl (by omega) ?_
                repeat (first|(apply w1;apply rfl;apply rfl)|(apply w2;apply rfl)|(apply w3;apply rfl;apply rfl)|apply w4|apply w5|apply w6|apply w7|(apply w8;apply rfl)|(apply w9;apply rfl)|apply wa|apply wd|apply we|apply wb|apply wc|apply wf|apply wg|apply wh|(apply wi;apply rfl)|apply wj|apply wk|apply wl|apply wm|apply wn|(apply s_load tk;apply rfl;apply rfl;(assumption);apply rfl;apply rfl)|(apply s_ept tk;apply rfl;apply rfl;apply rfl;apply rfl))
                exact ⟨k + 1, ⟨c', hgo (by rw [hk13, f3]; rfl) hA⟩, by omega, Fr.sub_cons rfl (Fr.sub_cons rfl (Fr.sub_cons rfl (Fr.sub_nil _))), hsx⟩
            · have hk13 : (decide (n.kind = 1) || decide (n.kind = 3)) = false := by rw [f1, f2]; rfl
              repeat (first|(apply w1;apply rfl;apply rfl)|(apply w2;apply rfl)|(apply w3;apply rfl;apply rfl)|apply w4|apply w5|apply w6|apply w7|(apply w8;apply rfl)|(apply w9;apply rfl)|apply wa|apply wd|apply we|apply wb|apply wc|apply wf|apply wg|apply wh|(apply wi;apply rfl)|apply wj|apply wk|apply wl|apply wm|apply wn|(apply s_load tk;apply rfl;apply rfl;(assumption);apply rfl;apply rfl)|(apply s_ept tk;apply rfl;apply rfl;apply rfl;apply rfl))
              refine s_add rfl rfl rfl (by omega) ?_
              repeat (first|(apply w1;apply rfl;apply rfl)|(apply w2;apply rfl)|(apply w3;apply rfl;apply rfl)|apply w4|apply w5|apply w6|apply w7|(apply w8;apply rfl)|(apply w9;apply rfl)|apply wa|apply wd|apply we|apply wb|apply wc|apply wf|apply wg|apply wh|(apply wi;apply rfl)|apply wj|apply wk|apply wl|apply wm|apply wn|(apply s_load tk;apply rfl;apply rfl;(assumption);apply rfl;apply rfl)|(apply s_ept tk;apply rfl;apply rfl;apply rfl;apply rfl))
              exact ⟨k + 1, ⟨c', hgo (by rw [hk13]; rfl) hA⟩, by omega, Fr.sub_cons rfl (Fr.sub_cons rfl (Fr.sub_cons rfl (Fr.sub_nil _))), hsx⟩
    · have hA : (!(decide (n.kind = 2) && decide ((k : Int) + 1 > 1) && (!decide (L = 1) || !rrooted l 24 (k + 1)))) = true := by rw [e1, e2]; rfl
      repeat (first|(apply w1;apply rfl;apply rfl)|(apply w2;apply rfl)|(apply w3;apply rfl;apply rfl)|apply w4|apply w5|apply w6|apply w7|(apply w8;apply rfl)|(apply w9;apply rfl)|apply wa|apply wd|apply we|apply wb|apply wc|apply wf|apply wg|apply wh|(apply wi;apply rfl)|apply wj|apply wk|apply wl|apply wm|apply wn|(apply s_load tk;apply rfl;apply rfl;(assumption);apply rfl;apply rfl)|(apply s_ept tk;apply rfl;apply rfl;apply rfl;apply rfl))
      refine s_gsplit rfl rfl (fun f1 => ?_) (fun f1 => ?_)
      · have hk13 : (decide (n.kind = 1) || decide (n.kind = 3)) = true := by rw [f1]; rfl
        repeat (first|(apply w1;apply rfl;apply rfl)|(apply w2;apply rfl)|(apply w3;apply rfl;apply rfl)|apply w4|apply w5|apply w6|apply w7|(apply w8;apply rfl)|(apply w9;apply rfl)|apply wa|apply wd|apply we|apply wb|apply wc|apply wf|apply wg|apply wh|(apply wi;apply rfl)|apply wj|apply wk|apply wl|apply wm|apply wn|(apply s_load tk;apply rfl;apply rfl;(assumption);apply rfl;apply rfl)|(apply s_ept tk;apply rfl;apply rfl;apply rfl;apply rfl))
        refine s_gsplit rfl rfl (fun f3 => ?_) (fun f3 => ?_)
        · repeat (first|(apply w1;apply rfl;apply rfl)|(apply w2;apply rfl)|(apply w3;apply rfl;apply rfl)|apply w4|apply w5|apply w6|apply w7|(apply w8;apply rfl)|(apply w9;apply rfl)|apply wa|apply wd|apply we|apply wb|apply wc|apply wf|apply wg|apply wh|(apply wi;apply rfl)|apply wj|apply wk|apply wl|apply wm|apply wn|(apply s_load tk;apply rfl;apply rfl;(assumption);apply rfl;apply rfl)|(apply s_ept tk;apply rfl;apply rfl;apply rfl;apply rfl))
          refine s_call rfl rfl fk99 ?_
          refine rinl_c hop ?_
          repeat (first|(apply w1;apply rfl;apply rfl)|(apply w2;apply rfl)|(apply w3;apply rfl;apply rfl)|apply w4|apply w5|apply w6|apply w7|(apply w8;apply rfl)|(apply w9;apply rfl)|apply wa|apply wd|apply we|apply wb|apply wc|apply wf|apply wg|apply wh|(apply wi;apply rfl)|apply wj|apply wk|apply wl|apply wm|apply wn|(apply s_load tk;apply rfl;apply rfl;(assumption);apply rfl;apply rfl)|(apply s_ept tk;apply rfl;apply rfl;apply rfl;apply rfl))
          refine aw_cond rfl (fun f4 => ?_) (fun f4 => ?_)
          · repeat (first|(apply w1;apply rfl;apply rfl)|(apply w2;apply rfl)|(apply w3;apply rfl;apply rfl)|apply w4|apply w5|apply w6|apply w7|(apply w8;apply rfl)|(apply w9;apply rfl)|apply wa|apply wd|apply we|apply wb|apply wc|apply wf|apply wg|apply wh|(apply wi;apply rfl)|apply wj|apply wk|apply wl|apply wm|apply wn|(apply s_load tk;apply rfl;apply rfl;(assumption);apply rfl;apply rfl)|(apply s_ept tk;apply rfl;apply rfl;apply rfl;apply rfl))
            exact rt1 rfl rfl (.refl _) hsub2 (hfB (by rw [hk13, f3, f4]; rfl))
          · repeat (first|(apply w1;apply rfl;apply rfl)|(apply w2;apply rfl)|(apply w3;apply rfl;apply rfl)|apply w4|apply w5|apply w6|apply w7|(apply w8;apply rfl)|(apply w9;apply rfl)|apply wa|apply wd|apply we|apply wb|apply wc|apply wf|apply wg|apply wh|(apply wi;apply rfl)|apply wj|apply wk|apply wl|apply wm|apply wn|(apply s_load tk;apply rfl;apply rfl;(assumption);apply rfl;apply rfl)|(apply s_ept tk;apply rfl;apply rfl;apply rfl;apply rfl))
            refine s_add rfl rfl rfl (by omega) ?_
            repeat (first|(apply w1;apply rfl;apply rfl)|(apply w2;apply rfl)|(apply w3;apply rfl;apply rfl)|apply w4|apply w5|apply w6|apply w7|(apply w8;apply rfl)|(apply w9;apply rfl)|apply wa|apply wd|apply we|apply wb|apply wc|apply wf|apply wg|apply wh|(apply wi;apply rfl)|apply wj|apply wk|apply wl|apply wm|apply wn|(apply s_load tk;apply rfl;apply rfl;(assumption);apply rfl;apply rfl)|(apply s_ept tk;apply rfl;apply rfl;apply rfl;apply rfl))
            exact ⟨k + 1, ⟨c', hgo (by rw [hk13, f3, f4]; rfl) hA⟩, by omega, Fr.sub_cons rfl (Fr.sub_cons rfl (Fr.sub_cons rfl (Fr.sub_nil _))), hsx⟩
        · repeat (first|(apply w1;apply rfl;apply rfl)|(apply w2;apply rfl)|(apply w3;apply rfl;apply rfl)|apply w4|apply w5|apply w6|apply w7|(apply w8;apply rfl)|(apply w9;apply rfl)|apply wa|apply wd|apply we|apply wb|apply wc|apply wf|apply wg|apply wh|(apply wi;apply rfl)|apply wj|apply wk|apply wl|apply wm|apply wn|(apply s_load tk;apply rfl;apply rfl;(assumption);apply rfl;apply rfl)|(apply s_ept tk;apply rfl;apply rfl;apply rfl;apply rfl))
          refine s_add rfl rfl rfl (by omega) ?_
          repeat (first|(apply w1;apply rfl;apply rfl)|(apply w2;apply rfl)|(apply w3;apply rfl;apply rfl)|apply w4|apply w5|apply w6|apply w7|(apply w8;apply rfl)|(apply w9;apply rfl)|apply wa|apply wd|apply we|apply wb|apply wc|apply wf|apply wg|apply wh|(apply wi;apply rfl)|apply wj|apply wk|apply wl|apply wm|apply wn|(apply s_load tk;apply rfl;apply rfl;(assumption);apply rfl;apply rfl)|(apply s_ept tk;apply rfl;apply rfl;apply rfl;apply rfl))
          exact ⟨k + 1, ⟨c', hgo (by rw [hk13, f3]; rfl) hA⟩, by omega, Fr.sub_cons rfl (Fr.sub_cons rfl (Fr.sub_cons rfl (Fr.sub_nil _))), hsx⟩
      · repeat (first|(apply w1;apply rfl;apply rfl)|(apply w2;apply rfl)|(apply w3;apply rfl;apply rfl)|apply w4|apply w5|apply w6|apply w7|(apply w8;apply rfl)|(apply w9;apply rfl)|apply wa|apply wd|apply we|apply wb|apply wc|apply wf|apply wg|apply wh|(apply wi;apply rfl)|apply wj|apply wk|apply wl|apply wm|apply wn|(apply s_load tk;apply rfl;apply rfl;(assumption);apply rfl;apply rfl)|(apply s_ept tk;apply rfl;apply rfl;apply rfl;apply rfl))
        refine s_gsplit rfl rfl (fun f2 => ?_) (fun f2 => ?_)
        · have hk13 : (decide (n.kind = 1) || decide (n.kind = 3)) = true := by rw [f1, f2]; rfl
          repeat (first|(apply w1;apply rfl;apply rfl)|(apply w2;apply rfl)|(apply w3;apply rfl;apply rfl)|apply w4|apply w5|apply w6|apply w7|(apply w8;apply rfl)|(apply w9;apply rfl)|apply wa|apply wd|apply we|apply wb|apply wc|apply wf|apply wg|apply wh|(apply wi;apply rfl)|apply wj|apply wk|apply wl|apply wm|apply wn|(apply s_load tk;apply rfl;apply rfl;(assumption);apply rfl;apply rfl)|(apply s_ept tk;apply rfl;apply rfl;apply rfl;apply rfl))
          refine s_gsplit rfl rfl (fun f3 => ?_) (fun f3 => ?_)
          · repeat (first|(apply w1;apply rfl;apply rfl)|(apply w2;apply rfl)|(apply w3;apply rfl;apply rfl)|apply w4|apply w5|apply w6|apply w7|(apply w8;apply rfl)|(apply w9;apply rfl)|apply wa|apply wd|apply we|apply wb|apply wc|apply wf|apply wg|apply wh|(apply wi;apply rfl)|apply wj|apply wk|apply wl|apply wm|apply wn|(apply s_load tk;apply rfl;apply rfl;(assumption);apply rfl;apply rfl)|(apply s_ept tk;apply rfl;apply rfl;apply rfl;apply rfl))
            refine s_call rfl rfl fk99 ?_
            refine rinl_c hop ?_
            repeat (first|(apply w1;apply rfl;apply rfl)|(apply w2;apply rfl)|(apply w3;apply rfl;apply rfl)|apply w4|apply w5|apply w6|apply w7|(apply w8;apply rfl)|(apply w9;apply rfl)|apply wa|apply wd|apply we|apply wb|apply wc|apply wf|apply wg|apply wh|(apply wi;apply rfl)|apply wj|apply wk|apply wl|apply wm|apply wn|(apply s_load tk;apply rfl;apply rfl;(assumption);apply rfl;apply rfl)|(apply s_ept tk;apply rfl;apply rfl;apply rfl;apply rfl))
            refine aw_cond rfl (fun f4 => ?_) (fun f4 => ?_)
            · repeat (first|(apply w1;apply rfl;apply rfl)|(apply w2;apply rfl)|(apply w3;apply rfl;apply rfl)|apply w4|apply w5|apply w6|apply w7|(apply w8;apply rfl)|(apply w9;apply rfl)|apply wa|apply wd|apply we|apply wb|apply wc|apply wf|apply wg|apply wh|(apply wi;apply rfl)|apply wj|apply wk|apply wl|apply wm|apply wn|(apply s_load tk;apply rfl;apply rfl;(assumption);apply rfl;apply rfl)|(apply s_ept tk;apply rfl;apply rfl;apply rfl;apply rfl))
              exact rt1 rfl rfl (.refl _) hsub2 (hfB (by rw [hk13, f3, f4]; rfl))
            · repeat (first|(apply w1;apply rfl;apply rfl)|(apply w2;apply rfl)|(apply w3;apply rfl;apply rfl)|apply w4|apply w5|apply w6|apply w7|(apply w8;apply rfl)|(apply w9;apply rfl)|apply wa|apply wd|apply we|apply wb|apply wc|apply wf|apply wg|apply wh|(apply wi;apply rfl)|apply wj|apply wk|apply wl|apply wm|apply wn|(apply s_load tk;apply rfl;apply rfl;(assumption);apply rfl;apply rfl)|(apply s_ept tk;apply rfl;apply rfl;apply rfl;apply rfl))
              refine s_add rfl rfl rfl (by omega) ?_
              repeat (first|(apply w1;apply rfl;apply rfl)|(apply w2;apply rfl)|(apply w3;apply rfl;apply rfl)|apply w4|apply w5|apply w6|apply w7|(apply w8;apply rfl)|(apply w9;apply rfl)|apply wa|apply wd|apply we|apply wb|apply wc|apply wf|apply wg|apply wh|(apply wi;apply rfl)|apply wj|apply wk|apply wl|apply wm|apply wn|(apply s_load tk;apply rfl;apply rfl;(assumption);apply rfl;apply rfl)|(apply s_ept tk;apply rfl;apply rfl;apply rfl;apply rfl))
              exact ⟨k + 1, ⟨c', hgo (by rw [hk13, f3, f4]; rfl) hA⟩, by omega, Fr.sub_cons rfl (Fr.sub_cons rfl (Fr.sub_cons rfl (Fr.sub_nil _))), hsx⟩
          · repeat (first|(apply w1;apply rfl;apply rfl)|(apply w2;apply rfl)|(apply w3;apply rfl;apply rfl)|apply w4|apply w5|apply w6|apply w7|(apply w8;apply rfl)|(apply w9;apply rfl)|apply wa|apply wd|apply we|apply wb|apply wc|apply wf|apply wg|apply wh|(apply wi;apply rfl)|apply wj|apply wk|apply wl|apply wm|apply wn|(apply s_load tk;apply rfl;apply rfl;(assumption);apply rfl;apply rfl)|(apply s_ept tk;apply rfl;apply rfl;apply rfl;apply rfl))
            refine s_add rfl rfl rfl (by omega) ?_
            repeat (first|(apply w1;apply rfl;apply rfl)|(apply w2;apply rfl)|(apply w3;apply rfl;apply rfl)|apply w4|apply w5|apply w6|apply w7|(apply w8;apply rfl)|(apply w9;apply rfl)|apply wa|apply wd|apply we|apply wb|apply wc|apply wf|apply wg|apply wh|(apply wi;apply rfl)|apply wj|apply wk|apply wl|apply wm|apply wn|(apply s_load tk;apply rfl;apply rfl;(assumption);apply rfl;apply rfl)|(apply s_ept tk;apply rfl;apply rfl;apply rfl;apply rfl))
            exact ⟨k + 1, ⟨c', hgo (by rw [hk13, f3]; rfl) hA⟩, by omega, Fr.sub_cons rfl (Fr.sub_cons rfl (Fr.sub_cons rfl (Fr.sub_nil _))), hsx⟩
        · have hk13 : (decide (n.kind = 1) || decide (n.kind = 3)) = false := by rw [f1, f2]; rfl
          repeat (first|(apply w1;apply rfl;apply rfl)|(apply w2;apply rfl)|(apply w3;apply rfl;apply rfl)|apply w4|apply w5|apply w6|apply w7|(apply w8;apply rfl)|(apply w9;apply rfl)|apply wa|apply wd|apply we|apply wb|apply wc|apply wf|apply wg|apply wh|(apply wi;apply rfl)|apply wj|apply wk|apply wl|apply wm|apply wn|(apply s_load tk;apply rfl;apply rfl;(assumption);apply rfl;apply rfl)|(apply s_ept tk;apply rfl;apply rfl;apply rfl;apply rfl))
          refine s_add rfl rfl rfl (by omega) ?_
          repeat (first|(apply w1;apply rfl;apply rfl)|(apply w2;apply rfl)|(apply w3;apply rfl;apply rfl)|apply w4|apply w5|apply w6|apply w7|(apply w8;apply rfl)|(apply w9;apply rfl)|apply wa|apply wd|apply we|apply wb|apply wc|apply wf|apply wg|apply wh|(apply wi;apply rfl)|apply wj|apply wk|apply wl|apply wm|apply wn|(apply s_load tk;apply rfl;apply rfl;(assumption);apply rfl;apply rfl)|(apply s_ept tk;apply rfl;apply rfl;apply rfl;apply rfl))
          exact ⟨k + 1, ⟨c', hgo (by rw [hk13]; rfl) hA⟩, by omega, Fr.sub_cons rfl (Fr.sub_cons rfl (Fr.sub_cons rfl (Fr.sub_nil _))), hsx⟩
  · have hA : (!(decide (n.kind = 2) && decide ((k : Int) + 1 > 1) && (!decide (L = 1) || !rrooted l 24 (k + 1)))) = true := by rw [e1]; rfl
    repeat (first|(apply w1;apply rfl;apply rfl)|(apply w2;apply rfl)|(apply w3;apply rfl;apply rfl)|apply w4|apply w5|apply w6|apply w7|(apply w8;apply rfl)|(apply w9;apply rfl)|apply wa|apply wd|apply we|apply wb|apply wc|apply wf|apply wg|apply wh|(apply wi;apply rfl)|apply wj|apply wk|apply wl|apply wm|apply wn|(apply s_load tk;apply rfl;apply rfl;(assumption);apply rfl;apply rfl)|(apply s_ept tk;apply rfl;apply rfl;apply rfl;apply rfl))
    refine s_gsplit rfl rfl (fun f1 => ?_) (fun f1 => ?_)
    · have hk13 : (decide (n.kind = 1) || decide (n.kind = 3)) = true := by rw [f1]; rfl
      repeat (first|(apply w1;apply rfl;apply rfl)|(apply w2;apply rfl)|(apply w3;apply rfl;apply rfl)|apply w4|apply w5|apply w6|apply w7|(apply w8;apply rfl)|(apply w9;apply rfl)|apply wa|apply wd|apply we|apply wb|apply wc|apply wf|apply wg|apply wh|(apply wi;apply rfl)|apply wj|apply wk|apply wl|apply wm|apply wn|(apply s_load tk;apply rfl;apply rfl;(assumption);apply rfl;apply rfl)|(apply s_ept tk;apply rfl;apply rfl;apply rfl;apply rfl))
      refine s_gsplit rfl rfl (fun f3 => ?_) (fun f3 => ?_)
      · repeat (first|(apply w1;apply rfl;apply rfl)|(apply w2;apply rfl)|(apply w3;apply rfl;apply rfl)|apply w4|apply w5|apply w6|apply w7|(apply w8;apply rfl)|(apply w9;apply rfl)|apply wa|apply wd|apply we|apply wb|apply wc|apply wf|apply wg|apply wh|(apply wi;apply rfl)|apply wj|apply wk|apply wl|apply wm|apply wn|(apply s_load tk;apply rfl;apply rfl;(assumption);apply rfl;apply rfl)|(apply s_ept tk;apply rfl;apply rfl;apply rfl;apply rfl))
        refine s_call rfl rfl fk99 ?_
        refine rinl_c hop ?_
        repeat (first|(apply w1;apply rfl;apply rfl)|(apply w2;apply rfl)|(apply w3;apply rfl;apply rfl)|apply w4|apply w5|apply w6|apply w7|(apply w8;apply rfl)|(apply w9;apply rfl)|apply wa|apply wd|apply we|apply wb|apply wc|apply wf|apply wg|apply wh|(apply wi;apply rfl)|apply wj|apply wk|apply wl|apply wm|apply wn|(apply s_load tk;apply rfl;apply rfl;(assumption);apply rfl;apply rfl)|(apply s_ept tk;apply rfl;apply rfl;apply rfl;apply rfl))
        refine aw_cond rfl (fun f4 => ?_) (fun f4 => ?_)
        · repeat (first|(apply w1;apply rfl;apply rfl)|(apply w2;apply rfl)|(apply w3;apply rfl;apply rfl)|apply w4|apply w5|apply w6|apply w7|(apply w8;apply rfl)|(apply w9;apply rfl)|apply wa|apply wd|apply we|apply wb|apply wc|apply wf|apply wg|apply wh|(apply wi;apply rfl)|apply wj|apply wk|apply wl|apply wm|apply wn|(apply s_load tk;apply rfl;apply rfl;(assumption);apply rfl;apply rfl)|(apply s_ept tk;apply rfl;apply rfl;apply rfl;apply rfl))
          exact rt1 rfl rfl (.refl _) hsub2 (hfB (by rw [hk13, f3, f4]; rfl))
        · repeat (first|(apply w1;apply rfl;apply rfl)|(apply w2;apply rfl)|(apply w3;apply rfl;apply rfl)|apply w4|apply w5|apply w6|apply w7|(apply w8;apply rfl)|(apply w9;apply rfl)|apply wa|apply wd|apply we|apply wb|apply wc|apply wf|apply wg|apply wh|(apply wi;apply rfl)|apply wj|apply wk|apply wl|apply wm|apply wn|(apply s_load tk;apply rfl;apply rfl;(assumption);apply rfl;apply rfl)|(apply s_ept tk;apply rfl;apply rfl;apply rfl;apply rfl))
          refine s_add rfl rfl rfl (by omega) ?_
          repeat (first|(apply w1;apply rfl;apply rfl)|(apply w2;apply rfl)|(apply w3;apply rfl;apply rfl)|apply w4|apply w5|apply w6|apply w7|(apply w8;apply rfl)|(apply w9;apply rfl)|apply wa|apply wd|apply we|apply wb|apply wc|apply wf|apply wg|apply wh|(apply wi;apply rfl)|apply wj|apply wk|apply wl|apply wm|apply wn|(apply s_load tk;apply rfl;apply rfl;(assumption);apply rfl;apply rfl)|(apply s_ept tk;apply rfl;apply rfl;apply rfl;apply rfl))
          exact ⟨k + 1, ⟨c', hgo (by rw [hk13, f3, f4]; rfl) hA⟩, by omega, Fr.sub_cons rfl (Fr.sub_cons rfl (Fr.sub_cons rfl (Fr.sub_nil _))), hsx⟩
      · repeat (first|(apply w1;apply rfl;apply rfl)|(apply w2;apply rfl)|(apply w3;apply rfl;apply rfl)|apply w4|apply w5|apply w6|apply w7|(apply w8;apply rfl)|(apply w9;apply rfl)|apply wa|apply wd|apply we|apply wb|apply wc|apply wf|apply wg|apply wh|(apply wi;apply rfl)|apply wj|apply wk|apply wl|apply wm|apply wn|(apply s_load tk;apply rfl;apply rfl;(assumption);apply rfl;apply rfl)|(apply s_ept tk;apply rfl;apply rfl;apply rfl;apply rfl))
        refine s_add rfl rfl rfl (by omega) ?_
        repeat (first|(apply w1;apply rfl;apply rfl)|(apply w2;apply rfl)|(apply w3;apply rfl;apply rfl)|apply w4|apply w5|apply w6|apply w7|(apply w8;apply rfl)|(apply w9;apply rfl)|apply wa|apply wd|apply we|apply wb|apply wc|apply wf|apply wg|apply wh|(apply wi;apply rfl)|apply wj|apply wk|apply wl|apply wm|apply wn|(apply s_load tk;apply rfl;apply rfl;(assumption);apply rfl;apply rfl)|(apply s_ept tk;apply rfl;apply rfl;apply rfl;apply rfl))
        exact ⟨k + 1, ⟨c', hgo (by rw [hk13, f3]; rfl) hA⟩, by omega, Fr.sub_cons rfl (Fr.sub_cons rfl (Fr.sub_cons rfl (Fr.sub_nil _))), hsx⟩
    · repeat (first|(apply w1;apply rfl;apply rfl)|(apply w2;apply rfl)|(apply w3;apply rfl;apply rfl)|apply w4|apply w5|apply w6|apply w7|(apply w8;apply rfl)|(apply w9;apply rfl)|apply wa|apply wd|apply we|apply wb|apply wc|apply wf|apply wg|apply wh|(apply wi;apply rfl)|apply wj|apply wk|apply wl|apply wm|apply wn|(apply s_load tk;apply rfl;apply rfl;(assumption);apply rfl;apply rfl)|(apply s_ept tk;apply rfl;apply rfl;apply rfl;apply rfl))
      refine s_gsplit rfl rfl (fun f2 => ?_) (fun f2 => ?_)
      · have hk13 : (decide (n.kind = 1) || decide (n.kind = 3)) = true := by rw [f1, f2]; rfl
        repeat (first|(apply w1;apply rfl;apply rfl)|(apply w2;apply rfl)|(apply w3;apply rfl;apply rfl)|apply w4|apply w5|apply w6|apply w7|(apply w8;apply rfl)|(apply w9;apply rfl)|apply wa|apply wd|apply we|apply wb|apply wc|apply wf|apply wg|apply wh|(apply wi;apply rfl)|apply wj|apply wk|apply wl|apply wm|apply wn|(apply s_load tk;apply rfl;apply rfl;(assumption);apply rfl;apply rfl)|(apply s_ept tk;apply rfl;apply rfl;apply rfl;apply rfl))
        refine s_gsplit rfl rfl (fun f3 => ?_) (fun f3 => ?_)
        · repeat (first|(apply w1;apply rfl;apply rfl)|(apply w2;apply rfl)|(apply w3;apply rfl;apply rfl)|apply w4|apply w5|apply w6|apply w7|(apply w8;apply rfl)|(apply w9;apply rfl)|apply wa|apply wd|apply we|apply wb|apply wc|apply wf|apply wg|apply wh|(apply wi;apply rfl)|apply wj|apply wk|apply wl|apply wm|apply wn|(apply s_load tk;apply rfl;apply rfl;(assumption);apply rfl;apply rfl)|(apply s_ept tk;apply rfl;apply rfl;apply rfl;apply rfl))
          refine s_call rfl rfl fk99 ?_
          refine rinl_c hop ?_
          repeat (first|(apply w1;apply rfl;apply rfl)|(apply w2;apply rfl)|(apply w3;apply rfl;apply rfl)|apply w4|apply w5|apply w6|apply w7|(apply w8;apply rfl)|(apply w9;apply rfl)|apply wa|apply wd|apply we|apply wb|apply wc|apply wf|apply wg|apply wh|(apply wi;apply rfl)|apply wj|apply wk|apply wl|apply wm|apply wn|(apply s_load tk;apply rfl;apply rfl;(assumption);apply rfl;apply rfl)|(apply s_ept tk;apply rfl;apply rfl;apply rfl;apply rfl))
          refine aw_cond rfl (fun f4 => ?_) (fun f4 => ?_)
          · repeat (first|(apply w1;apply rfl;apply rfl)|(apply w2;apply rfl)|(apply w3;apply rfl;apply rfl)|apply w4|apply w5|apply w6|apply w7|(apply w8;apply rfl)|(apply w9;apply rfl)|apply wa|apply wd|apply we|apply wb|apply wc|apply wf|apply wg|apply wh|(apply wi;apply rfl)|apply wj|apply wk|apply wl|apply wm|apply wn|(apply s_load tk;apply rfl;apply rfl;(assumption);apply rfl;apply rfl)|(apply s_ept tk;apply rfl;apply rfl;apply rfl;apply rfl))
            exact rt1 rfl rfl (.refl _) hsub2 (hfB (by rw [hk13, f3, f4]; rfl))
          · repeat (first|(apply w1;apply rfl;apply rfl)|(apply w2;apply rfl)|(apply w3;apply rfl;apply rfl)|apply w4|apply w5|apply w6|apply w7|(apply w8;apply rfl)|(apply w9;apply rfl)|apply wa|apply wd|apply we|apply wb|apply wc|apply wf|apply wg|apply wh|(apply wi;apply rfl)|apply wj|apply wk|apply wl|apply wm|apply wn|(apply s_load tk;apply rfl;apply rfl;(assumption);apply rfl;apply rfl)|(apply s_ept tk;apply rfl;apply rfl;apply rfl;apply rfl))
            refine s_add rfl rfl rfl (by omega) ?_
            repeat (first|(apply w1;apply rfl;apply rfl)|(apply w2;apply rfl)|(apply w3;apply rfl;apply rfl)|apply w4|apply w5|apply w6|apply w7|(apply w8;apply rfl)|(apply w9;apply rfl)|apply wa|apply wd|apply we|apply wb|apply wc|apply wf|apply wg|apply wh|(apply wi;apply rfl)|apply wj|apply wk|apply wl|apply wm|apply wn|(apply s_load tk;apply rfl;apply rfl;(assumption);apply rfl;apply rfl)|(apply s_ept tk;apply rfl;apply rfl;apply rfl;apply rfl))
            exact ⟨k + 1, ⟨c', hgo (by rw [hk13, f3, f4]; rfl) hA⟩, by omega, Fr.sub_cons rfl (Fr.sub_cons rfl (Fr.sub_cons rfl (Fr.sub_nil _))), hsx⟩
        · repeat (first|(apply w1;apply rfl;apply rfl)|(apply w2;apply rfl)|(apply w3;apply rfl;apply rfl)|apply w4|apply w5|apply w6|apply w7|(apply w8;apply rfl)|(apply w9;apply rfl)|apply wa|apply wd|apply we|apply wb|apply wc|apply wf|apply wg|apply wh|(apply wi;apply rfl)|apply wj|apply wk|apply wl|apply wm|apply wn|(apply s_load tk;apply rfl;apply rfl;(assumption);apply rfl;apply rfl)|(apply s_ept tk;apply rfl;apply rfl;apply rfl;apply rfl))
          refine s_add rfl rfl rfl (by omega) ?_
          repeat (first|(apply w1;apply rfl;apply rfl)|(apply w2;apply rfl)|(apply w3;apply rfl;apply rfl)|apply w4|apply w5|apply w6|apply w7|(apply w8;apply rfl)|(apply w9;apply rfl)|apply wa|apply wd|apply we|apply wb|apply wc|apply wf|apply wg|apply wh|(apply wi;apply rfl)|apply wj|apply wk|apply wl|apply wm|apply wn|(apply s_load tk;apply rfl;apply rfl;(assumption);apply rfl;apply rfl)|(apply s_ept tk;apply rfl;apply rfl;apply rfl;apply rfl))
          exact ⟨k + 1, ⟨c', hgo (by rw [hk13, f3]; rfl) hA⟩, by omega, Fr.sub_cons rfl (Fr.sub_cons rfl (Fr.sub_cons rfl (Fr.sub_nil _))), hsx⟩
      · have hk13 : (decide (n.kind = 1) || decide (n.kind = 3)) = false := by rw [f1, f2]; rfl
        repeat (first|(apply w1;apply rfl;apply rfl)|(apply w2;apply rfl)|(apply w3;apply rfl;apply rfl)|apply w4|apply w5|apply w6|apply w7|(apply w8;apply rfl)|(apply w9;apply rfl)|apply wa|apply wd|apply we|apply wb|apply wc|apply wf|apply wg|apply wh|(apply wi;apply rfl)|apply wj|apply wk|apply wl|apply wm|apply wn|(apply s_load tk;apply rfl;apply rfl;(assumption);apply rfl;apply rfl)|(apply s_ept tk;apply rfl;apply rfl;apply rfl;apply rfl))
        refine s_add rfl rfl rfl (by omega) ?_
        repeat (first|(apply w1;apply rfl;apply rfl)|(apply w2;apply rfl)|(apply w3;apply rfl;apply rfl)|apply w4|apply w5|apply w6|apply w7|(apply w8;apply rfl)|(apply w9;apply rfl)|apply wa|apply wd|apply we|apply wb|apply wc|apply wf|apply wg|apply wh|(apply wi;apply rfl)|apply wj|apply wk|apply wl|apply wm|apply wn|(apply s_load tk;apply rfl;apply rfl;(assumption);apply rfl;apply rfl)|(apply s_ept tk;apply rfl;apply rfl;apply rfl;apply rfl))
        exact ⟨k + 1, ⟨c', hgo (by rw [hk13]; rfl) hA⟩, by omega, Fr.sub_cons rfl (Fr.sub_cons rfl (Fr.sub_cons rfl (Fr.sub_nil _))), hsx⟩
end Abs
end Go.Proofs.Ytpifnlodilcgkaa

set_option linter.unusedVariables false
namespace Go.Proofs.Ytpifnlodilcgkaa
namespace Abs
set_option maxRecDepth 10000
attribute [local irreducible] AOps AW AP ACalls thenQ inBlk noGoto

/-! ### a slice of the call's own that grows -/
def tokB : Own → Option Nat
  | .tok b _ _ => some b
  | _ => none
/-- The heap behind an append: nothing but the old and the new token's block has turned. -/
theorem free_own_get {H : AHeap} {o o' : Own} {x : Nat} (h1 : tokB o ≠ some x) (h2 : tokB o' ≠ some x) : ((H.free o).own o') x = H x := by
  have hf : (H.free o) x = H x := by
    cases o with
    | no => rfl
    | full => rfl
    | tok b e s =>
      have : x ≠ b := fun e => h1 (by rw [e]; rfl)
      simp [AHeap.free, AHeap.del, this]
  cases o' with
  | no => exact hf
  | full => exact hf
  | tok b e s =>
    have : x ≠ b := fun e => h2 (by rw [e]; rfl)
    show (AHeap.put _ _ _) x = _
    rw [put_ne this, hf]
theorem owned_new {H : AHeap} {o o' : Own} (h : Apart (H.free o) o') : Owned ((H.free o).own o') o' := by
  cases o' with
  | no => exact h.elim
  | full => trivial
  | tok b e s => exact put_same _ _ _
theorem apart_ne {H : AHeap} {o o' : Own} (h : Apart (H.free o) o') {x : Nat} {p : HObj} (hx : H x = some p) (hn : tokB o ≠ some x) : tokB o' ≠ some x := fun e => by
  cases o' with
  | no => cases e
  | full => cases e
  | tok b e0 s =>
    cases e
    have : (H.free o) x = H x := by
      cases o with
      | no => rfl
      | full => rfl
      | tok b e s =>
        have : x ≠ b := fun e => hn (by rw [e]; rfl)
        simp [AHeap.free, AHeap.del, this]
    have h' : (H.free o) x = none := h
    rw [this, hx] at h'
    cases h'
end Abs
end Go.Proofs.Ytpifnlodilcgkaa

set_option linter.unusedVariables false
namespace Go.Proofs.Ytpifnlodilcgkaa
namespace Abs
set_option maxRecDepth 10000
attribute [local irreducible] AOps AW AP ACalls thenQ inBlk noGoto

/-! ### a node as the document has it -/
def midM (n : Node) (k j : Nat) (o1 o2 : Own) : List AVal := [.i n.kind, .i n.mode, .i n.uid, .i n.gid, .s n.data, .sl (encNames (n.ents.take k)) o1, .sl (encKids (n.ents.take j)) o2, .s n.target]
structure MSt (n : Node) (b1 b2 b3 : Nat) (z : List AVal) (H : AHeap) (k j : Nat) (o1 o2 : Own) (Y : AHeap) : Prop where
  node : Rd Y b1 (encNode n)
  res : Y b2 = some (.cells z)
  mid : Y b3 = some (.cells (midM n k j o1 o2))
  own1 : Owned Y o1
  own2 : Owned Y o2
  es1 : ownEs 1 o1
  es2 : ownEs 1 o2
  ne : ∀ b, tokB o1 = some b → tokB o2 ≠ some b
  new1 : ∀ b, tokB o1 = some b → H b = none ∧ b ≠ b1 ∧ b ≠ b2 ∧ b ≠ b3
  new2 : ∀ b, tokB o2 = some b → H b = none ∧ b ≠ b1 ∧ b ≠ b2 ∧ b ≠ b3
  sub : ∀ x, H x ≠ none → Y x = H x
/-- A heap in which some blocks read as in another one. -/
theorem back_in {Z Y : AHeap} {bs : List Nat} {b : Nat} (h : b ∈ bs) : Z.back Y bs b = Y b := by simp [AHeap.back, h]
theorem back_out {Z Y : AHeap} {bs : List Nat} {b : Nat} (h : b ∉ bs) : Z.back Y bs b = Z b := by simp [AHeap.back, h]
theorem owned_get {H H' : AHeap} {o : Own} (h : Owned H o) (e : ∀ b, tokB o = some b → H' b = H b) : Owned H' o := by
  cases o with
  | no => exact h
  | full => trivial
  | tok b x s => show H' b = _; rw [e b rfl]; exact h
theorem owned_prot {H : AHeap} {o : Own} {b : Nat} (h : Owned H o) (hn : tokB o ≠ some b) : Owned (H.prot [b]) o := owned_get h fun x hx => prot_other (by
  intro hm
  have := List.mem_singleton.1 hm
  subst this; exact hn hx)
theorem owned_some {H : AHeap} {o : Own} {b : Nat} (h : Owned H o) (hb : tokB o = some b) : H b ≠ none := by
  cases o with
  | no => exact h.elim
  | full => cases hb
  | tok c x s => cases hb; rw [show H b = _ from h]; simp
/-- The heap behind a round's first half. -/
theorem mst_step1 {n : Node} {b1 b2 b3 : Nat} {z : List AVal} {H : AHeap} {k : Nat} {o1 o2 : Own} {Y : AHeap} (h12 : b1 ≠ b2) (h13 : b1 ≠ b3) (h23 : b2 ≠ b3) (hm : MSt n b1 b2 b3 z H k k o1 o2 Y) (hH1 : H b1 = none) (hH2 : H b2 = none) (hH3 : H b3 = none) {o' : Own} (ha : Apart ((Y.prot [b1]).free o1) o') (he : ownEs 1 o') :
    MSt n b1 b2 b3 z H (k + 1) k o' o2 (((((Y.prot [b1]).free o1).own o').put b3 (.cells (midM n (k + 1) k o' o2))).back Y [b1]) := by
  have n1 : ∀ x, x = b1 ∨ x = b2 ∨ x = b3 → tokB o1 ≠ some x := fun x hx e => by
    obtain ⟨_, a, b, c⟩ := hm.new1 x e
    rcases hx with h | h | h <;> contradiction
  have p3 : (Y.prot [b1]) b3 = some (.cells (midM n k k o1 o2)) := by rw [prot_other (by simpa using Ne.symm h13)]; exact hm.mid
  have p2 : (Y.prot [b1]) b2 = some (.cells z) := by rw [prot_other (by simpa using Ne.symm h12)]; exact hm.res
  have p1 : (Y.prot [b1]) b1 = some (.ro (encNode n)) := prot_get (List.mem_singleton.2 rfl) hm.node
  have q3 := apart_ne ha p3 (n1 b3 (.inr (.inr rfl)))
  have q2 := apart_ne ha p2 (n1 b2 (.inr (.inl rfl)))
  have q1 := apart_ne ha p1 (n1 b1 (.inl rfl))
  have hget : ∀ x, x ≠ b1 → x ≠ b3 → tokB o1 ≠ some x → tokB o' ≠ some x → ((((Y.prot [b1]).free o1).own o').put b3 (.cells (midM n (k + 1) k o' o2))).back Y [b1] x = Y x := fun x x1 x3 t1 t2 => by
    rw [back_out (by simpa using x1), put_ne x3, free_own_get t1 t2, prot_other (by simpa using x1)]
  have hq : ∀ x p, (Y.prot [b1]) x = some p → tokB o1 ≠ some x → tokB o' ≠ some x := fun x p hx ht => apart_ne ha hx ht
  have h2 : ∀ x, tokB o2 = some x → tokB o' ≠ some x := fun x hx => by
    have hy := owned_some hm.own2 hx
    have ht : tokB o1 ≠ some x := fun e => hm.ne x e hx
    obtain ⟨_, a1, _⟩ := hm.new2 x hx
    cases hYx : Y x with
    | none => exact absurd hYx hy
    | some p => exact hq x p (by rw [prot_other (by simpa using a1)]; exact hYx) ht
  have hN : ∀ x, H x ≠ none → tokB o1 ≠ some x ∧ tokB o' ≠ some x ∧ x ≠ b1 ∧ x ≠ b3 := fun x hx => by
    have x1 : x ≠ b1 := fun e => hx (e ▸ hH1)
    have t1 : tokB o1 ≠ some x := fun e => hx (hm.new1 x e).1
    refine ⟨t1, ?_, x1, fun e => hx (e ▸ hH3)⟩
    have hY := hm.sub x hx
    cases hHx : H x with
    | none => exact absurd hHx hx
    | some p => exact hq x p (by rw [prot_other (by simpa using x1), hY, hHx]) t1
  refine ⟨?_, ?_, ?_, ?_, ?_, he, hm.es2, fun b hb => fun e => h2 b e hb, fun b hb => ⟨?_, fun e => q1 (e ▸ hb), fun e => q2 (e ▸ hb), fun e => q3 (e ▸ hb)⟩, hm.new2, fun x hx => ?_⟩
  · unfold Rd; rw [back_in (List.mem_singleton.2 rfl)]; exact hm.node
  · rw [hget b2 (Ne.symm h12) h23 (n1 b2 (.inr (.inl rfl))) q2]; exact hm.res
  · rw [back_out (by simpa using Ne.symm h13), put_same]
  · refine owned_get (owned_new ha) fun b hb => ?_
    rw [back_out (by rw [List.mem_singleton]; intro e; exact q1 (e ▸ hb)), put_ne (fun e : b = b3 => q3 (e ▸ hb))]
  · refine owned_get hm.own2 fun b hb => ?_
    obtain ⟨_, a1, _, a3⟩ := hm.new2 b hb
    exact hget b a1 a3 (fun e => hm.ne b e hb) (h2 b hb)
  · cases hHb : H b with
    | none => rfl
    | some p => exact absurd hb (hN b (by rw [hHb]; simp)).2.1
  · obtain ⟨a, b, c, d⟩ := hN x hx
    rw [hget x c d a b]; exact hm.sub x hx
theorem mst_step2 {n : Node} {b1 b2 b3 : Nat} {z : List AVal} {H : AHeap} {k : Nat} {o1 o2 : Own} {Y : AHeap} (h12 : b1 ≠ b2) (h13 : b1 ≠ b3) (h23 : b2 ≠ b3) (hm : MSt n b1 b2 b3 z H (k + 1) k o1 o2 Y) (hH1 : H b1 = none) (hH2 : H b2 = none) (hH3 : H b3 = none) {o' : Own} (ha : Apart ((Y.prot [b1]).free o2) o') (he : ownEs 1 o') :
    MSt n b1 b2 b3 z H (k + 1) (k + 1) o1 o' (((((Y.prot [b1]).free o2).own o').put b3 (.cells (midM n (k + 1) (k + 1) o1 o'))).back Y [b1]) := by
  have n1 : ∀ x, x = b1 ∨ x = b2 ∨ x = b3 → tokB o2 ≠ some x := fun x hx e => by
    obtain ⟨_, a, b, c⟩ := hm.new2 x e
    rcases hx with h | h | h <;> contradiction
  have p3 : (Y.prot [b1]) b3 = some (.cells (midM n (k + 1) k o1 o2)) := by rw [prot_other (by simpa using Ne.symm h13)]; exact hm.mid
  have p2 : (Y.prot [b1]) b2 = some (.cells z) := by rw [prot_other (by simpa using Ne.symm h12)]; exact hm.res
  have p1 : (Y.prot [b1]) b1 = some (.ro (encNode n)) := prot_get (List.mem_singleton.2 rfl) hm.node
  have q3 := apart_ne ha p3 (n1 b3 (.inr (.inr rfl)))
  have q2 := apart_ne ha p2 (n1 b2 (.inr (.inl rfl)))
  have q1 := apart_ne ha p1 (n1 b1 (.inl rfl))
  have hget : ∀ x, x ≠ b1 → x ≠ b3 → tokB o2 ≠ some x → tokB o' ≠ some x → ((((Y.prot [b1]).free o2).own o').put b3 (.cells (midM n (k + 1) (k + 1) o1 o'))).back Y [b1] x = Y x := fun x x1 x3 t1 t2 => by
    rw [back_out (by simpa using x1), put_ne x3, free_own_get t1 t2, prot_other (by simpa using x1)]
  have hq : ∀ x p, (Y.prot [b1]) x = some p → tokB o2 ≠ some x → tokB o' ≠ some x := fun x p hx ht => apart_ne ha hx ht
  have h2 : ∀ x, tokB o1 = some x → tokB o' ≠ some x := fun x hx => by
    have hy := owned_some hm.own1 hx
    have ht : tokB o2 ≠ some x := hm.ne x hx
    obtain ⟨_, a1, _⟩ := hm.new1 x hx
    cases hYx : Y x with
    | none => exact absurd hYx hy
    | some p => exact hq x p (by rw [prot_other (by simpa using a1)]; exact hYx) ht
  have hN : ∀ x, H x ≠ none → tokB o2 ≠ some x ∧ tokB o' ≠ some x ∧ x ≠ b1 ∧ x ≠ b3 := fun x hx => by
    have x1 : x ≠ b1 := fun e => hx (e ▸ hH1)
    have t1 : tokB o2 ≠ some x := fun e => hx (hm.new2 x e).1
    refine ⟨t1, ?_, x1, fun e => hx (e ▸ hH3)⟩
    have hY := hm.sub x hx
    cases hHx : H x with
    | none => exact absurd hHx hx
    | some p => exact hq x p (by rw [prot_other (by simpa using x1), hY, hHx]) t1
  refine ⟨?_, ?_, ?_, ?_, ?_, hm.es1, he, fun b hb => h2 b hb, hm.new1, fun b hb => ⟨?_, fun e => q1 (e ▸ hb), fun e => q2 (e ▸ hb), fun e => q3 (e ▸ hb)⟩, fun x hx => ?_⟩
  · unfold Rd; rw [back_in (List.mem_singleton.2 rfl)]; exact hm.node
  · rw [hget b2 (Ne.symm h12) h23 (n1 b2 (.inr (.inl rfl))) q2]; exact hm.res
  · rw [back_out (by simpa using Ne.symm h13), put_same]
  · refine owned_get hm.own1 fun b hb => ?_
    obtain ⟨_, a1, _, a3⟩ := hm.new1 b hb
    exact hget b a1 a3 (hm.ne b hb) (h2 b hb)
  · refine owned_get (owned_new ha) fun b hb => ?_
    rw [back_out (by rw [List.mem_singleton]; intro e; exact q1 (e ▸ hb)), put_ne (fun e : b = b3 => q3 (e ▸ hb))]
  · cases hHb : H b with
    | none => rfl
    | some p => exact absurd hb (hN b (by rw [hHb]; simp)).2.1
  · obtain ⟨a, b, c, d⟩ := hN x hx
    rw [hget x c d a b]; exact hm.sub x hx
theorem take_names {l : List Ent} {k : Nat} (h : k < l.length) : encNames (l.take k) ++ [[.s l[k].name]] = encNames (l.take (k + 1)) := by
  rw [List.take_add_one, List.getElem?_eq_getElem h]; simp only [encNames, List.map_append]; rfl
theorem take_kids {l : List Ent} {k : Nat} (h : k < l.length) : encKids (l.take k) ++ [[.i l[k].node]] = encKids (l.take (k + 1)) := by
  rw [List.take_add_one, List.getElem?_eq_getElem h]; simp only [encKids, List.map_append]; rfl
theorem uni_names (l : List Ent) : Uni 1 (encNames l) := fun x hx => by
  obtain ⟨e, _, rfl⟩ := List.mem_map.1 hx; rfl
theorem uni_kids (l : List Ent) : Uni 1 (encKids l) := fun x hx => by
  obtain ⟨e, _, rfl⟩ := List.mem_map.1 hx; rfl
theorem uni_one1 (v : AVal) : Uni 1 [[v]] := fun x hx => by
  rw [List.mem_singleton.1 hx]; rfl
end Abs
end Go.Proofs.Ytpifnlodilcgkaa

set_option linter.unusedVariables false
namespace Go.Proofs.Ytpifnlodilcgkaa
namespace Abs
set_option maxRecDepth 10000
attribute [local irreducible] AOps AW AP ACalls thenQ inBlk noGoto

end Abs
end Go.Proofs.Ytpifnlodilcgkaa
