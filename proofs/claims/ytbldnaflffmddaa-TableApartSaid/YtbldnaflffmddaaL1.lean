import Derived.Test.YtbldnaflffmddaaT1
import Derived.Test.YtbldnaflffmddaaQ1
import Derived.Test.YtbldnaflffmddaaA10
import Derived.Test.YtbldnaflffmddaaQ10
set_option linter.unusedVariables false
namespace Go.Proofs.Ytbldnaflffmddaa
namespace Abs
set_option maxRecDepth 10000
attribute [local irreducible] AOps AW ACalls thenQ inBlk noGoto

/-! ### package gaolerlaw09: few, small, awake -/
structure Ac where
  kind : Nat
  i : Int
  n : Node
def encAc (a : Ac) : List AVal := .sc (.int .u8 a.kind) :: .i a.i :: encNode a.n
def Node.len (n : Node) : Prop := n.ents.length ≤ 9223372036854775807
def Node.few (n : Node) : Prop := n.ents.length ≤ 20 ∧ n.data.size ≤ 100 ∧ n.target.size ≤ 100 ∧ ∀ e ∈ n.ents, e.name.size ≤ 40
theorem Node.few.small {n : Node} (h : n.few) : n.small := ⟨by have := h.2.1; omega, by have := h.1; omega⟩

theorem few09_c {n : Node} {H : AHeap} {K : AVal → AHeap → Prop} (hn : n.len) (hK : ∀ b, (b = true → n.few) → K (.b b) H) : ACalls Try.prog 48 [.agg (encNode n)] H K := by
  refine acalls_body Try.func48 rfl rfl rfl ?_
  repeat (first|(apply w1;apply rfl;apply rfl)|(apply w2;apply rfl)|(apply w3;apply rfl;apply rfl)|apply w4|apply w5|apply w6|apply w7|(apply w8;apply rfl)|(apply w9;apply rfl)|apply wa|apply wd|apply we|apply wb|apply wc|apply wf|apply wg|apply wh|(apply wi;apply rfl)|apply wj|apply wk|apply wl|apply wm|apply wn)
  refine s_box rfl rfl rfl (fun b hb => ?_)
  have hsub : H.sub (H.put b (.cells (encNode n))) := sub_new hb (AHeap.sub_refl _)
  have hrd : Rd (H.put b (.cells (encNode n))) b (encNode n) := .inl (put_same _ _ _)
  unfold Node.len at hn
  repeat (first|(apply w1;apply rfl;apply rfl)|(apply w2;apply rfl)|(apply w3;apply rfl;apply rfl)|apply w4|apply w5|apply w6|apply w7|(apply w8;apply rfl)|(apply w9;apply rfl)|apply wa|apply wd|apply we|apply wb|apply wc|apply wf|apply wg|apply wh|(apply wi;apply rfl)|apply wj|apply wk|apply wl|apply wm|apply wn|(apply s_load tk;apply rfl;apply rfl;(assumption);apply rfl;apply rfl)|(apply s_ept tk;apply rfl;apply rfl;apply rfl;apply rfl))
  refine aw_loop (fun k : Nat => k ≤ n.ents.length ∧ ∀ j (h : j < n.ents.length), j < k → n.ents[j].name.size ≤ 40) (fun k => [(1, .ptr b 0), (3, .i k)]) (fun _ => H.put b (.cells (encNode n))) (fun k => n.ents.length - k) 0 ⟨Nat.zero_le _, fun j _ h => absurd h (Nat.not_lt_zero _)⟩ (Fr.sub_cons rfl (Fr.sub_cons rfl (Fr.sub_nil _))) (AHeap.sub_refl _) ?_
  intro k ⟨hk, hall⟩
  repeat (first|(apply w1;apply rfl;apply rfl)|(apply w2;apply rfl)|(apply w3;apply rfl;apply rfl)|apply w4|apply w5|apply w6|apply w7|(apply w8;apply rfl)|(apply w9;apply rfl)|apply wa|apply wd|apply we|apply wb|apply wc|apply wf|apply wg|apply wh|(apply wi;apply rfl)|apply wj|apply wk|apply wl|apply wm|apply wn|(apply s_load tk;apply rfl;apply rfl;(assumption);apply rfl;apply rfl)|(apply s_ept tk;apply rfl;apply rfl;apply rfl;apply rfl))
  refine aw_cond rfl (fun c => ?_) (fun c => ?_)
  · have c' : k < n.ents.length := by simpa using c
    repeat (first|(apply w1;apply rfl;apply rfl)|(apply w2;apply rfl)|(apply w3;apply rfl;apply rfl)|apply w4|apply w5|apply w6|apply w7|(apply w8;apply rfl)|(apply w9;apply rfl)|apply wa|apply wd|apply we|apply wb|apply wc|apply wf|apply wg|apply wh|(apply wi;apply rfl)|apply wj|apply wk|apply wl|apply wm|apply wn|(apply s_load tk;apply rfl;apply rfl;(assumption);apply rfl;apply rfl)|(apply s_ept tk;apply rfl;apply rfl;apply rfl;apply rfl))
    refine s_index tk rfl rfl rfl rfl (by omega) (show (n.ents.map encEnt)[(k : Int).toNat]? = some (encEnt n.ents[k]) by simp [c']) rfl ?_
    repeat (first|(apply w1;apply rfl;apply rfl)|(apply w2;apply rfl)|(apply w3;apply rfl;apply rfl)|apply w4|apply w5|apply w6|apply w7|(apply w8;apply rfl)|(apply w9;apply rfl)|apply wa|apply wd|apply we|apply wb|apply wc|apply wf|apply wg|apply wh|(apply wi;apply rfl)|apply wj|apply wk|apply wl|apply wm|apply wn|(apply s_load tk;apply rfl;apply rfl;(assumption);apply rfl;apply rfl)|(apply s_ept tk;apply rfl;apply rfl;apply rfl;apply rfl))
    refine aw_cond rfl (fun g => ?_) (fun g => ?_)
    · repeat (first|(apply w1;apply rfl;apply rfl)|(apply w2;apply rfl)|(apply w3;apply rfl;apply rfl)|apply w4|apply w5|apply w6|apply w7|(apply w8;apply rfl)|(apply w9;apply rfl)|apply wa|apply wd|apply we|apply wb|apply wc|apply wf|apply wg|apply wh|(apply wi;apply rfl)|apply wj|apply wk|apply wl|apply wm|apply wn|(apply s_load tk;apply rfl;apply rfl;(assumption);apply rfl;apply rfl)|(apply s_ept tk;apply rfl;apply rfl;apply rfl;apply rfl))
      exact rt1 rfl rfl (.refl _) hsub (hK false (fun e => by cases e))
    · repeat (first|(apply w1;apply rfl;apply rfl)|(apply w2;apply rfl)|(apply w3;apply rfl;apply rfl)|apply w4|apply w5|apply w6|apply w7|(apply w8;apply rfl)|(apply w9;apply rfl)|apply wa|apply wd|apply we|apply wb|apply wc|apply wf|apply wg|apply wh|(apply wi;apply rfl)|apply wj|apply wk|apply wl|apply wm|apply wn|(apply s_load tk;apply rfl;apply rfl;(assumption);apply rfl;apply rfl)|(apply s_ept tk;apply rfl;apply rfl;apply rfl;apply rfl))
      refine s_add rfl rfl rfl (by omega) ?_
      repeat (first|(apply w1;apply rfl;apply rfl)|(apply w2;apply rfl)|(apply w3;apply rfl;apply rfl)|apply w4|apply w5|apply w6|apply w7|(apply w8;apply rfl)|(apply w9;apply rfl)|apply wa|apply wd|apply we|apply wb|apply wc|apply wf|apply wg|apply wh|(apply wi;apply rfl)|apply wj|apply wk|apply wl|apply wm|apply wn|(apply s_load tk;apply rfl;apply rfl;(assumption);apply rfl;apply rfl)|(apply s_ept tk;apply rfl;apply rfl;apply rfl;apply rfl))
      refine ⟨k + 1, ⟨by omega, fun j hj hjk => ?_⟩, by omega, Fr.sub_cons rfl (Fr.sub_cons rfl (Fr.sub_nil _)), AHeap.sub_refl _⟩
      rcases Nat.lt_or_ge j k with h | h
      · exact hall j hj h
      · have : j = k := by omega
        subst this
        have g' := of_decide_eq_false g
        omega
  · have hkl : k = n.ents.length := by have : ¬ k < n.ents.length := by simpa using c
                                       omega
    subst hkl
    repeat (first|(apply w1;apply rfl;apply rfl)|(apply w2;apply rfl)|(apply w3;apply rfl;apply rfl)|apply w4|apply w5|apply w6|apply w7|(apply w8;apply rfl)|(apply w9;apply rfl)|apply wa|apply wd|apply we|apply wb|apply wc|apply wf|apply wg|apply wh|(apply wi;apply rfl)|apply wj|apply wk|apply wl|apply wm|apply wn|(apply s_load tk;apply rfl;apply rfl;(assumption);apply rfl;apply rfl)|(apply s_ept tk;apply rfl;apply rfl;apply rfl;apply rfl))
    refine s_gsplit rfl rfl (fun g1 => ?_) (fun g1 => ?_)
    · repeat (first|(apply w1;apply rfl;apply rfl)|(apply w2;apply rfl)|(apply w3;apply rfl;apply rfl)|apply w4|apply w5|apply w6|apply w7|(apply w8;apply rfl)|(apply w9;apply rfl)|apply wa|apply wd|apply we|apply wb|apply wc|apply wf|apply wg|apply wh|(apply wi;apply rfl)|apply wj|apply wk|apply wl|apply wm|apply wn|(apply s_load tk;apply rfl;apply rfl;(assumption);apply rfl;apply rfl)|(apply s_ept tk;apply rfl;apply rfl;apply rfl;apply rfl))
      refine s_gsplit rfl rfl (fun g2 => ?_) (fun g2 => ?_)
      · repeat (first|(apply w1;apply rfl;apply rfl)|(apply w2;apply rfl)|(apply w3;apply rfl;apply rfl)|apply w4|apply w5|apply w6|apply w7|(apply w8;apply rfl)|(apply w9;apply rfl)|apply wa|apply wd|apply we|apply wb|apply wc|apply wf|apply wg|apply wh|(apply wi;apply rfl)|apply wj|apply wk|apply wl|apply wm|apply wn|(apply s_load tk;apply rfl;apply rfl;(assumption);apply rfl;apply rfl)|(apply s_ept tk;apply rfl;apply rfl;apply rfl;apply rfl))
        refine rt1 rfl rfl (.refl _) hsub (hK _ (fun e => ⟨?_, ?_, ?_, fun x hx => ?_⟩))
        · have := of_decide_eq_true g1; rw [ents_len] at this; omega
        · have := of_decide_eq_true g2; rw [encBytes_len] at this; omega
        · have := of_decide_eq_true e; omega
        · obtain ⟨j, hj, rfl⟩ := List.getElem_of_mem hx
          exact hall j hj hj
      · repeat (first|(apply w1;apply rfl;apply rfl)|(apply w2;apply rfl)|(apply w3;apply rfl;apply rfl)|apply w4|apply w5|apply w6|apply w7|(apply w8;apply rfl)|(apply w9;apply rfl)|apply wa|apply wd|apply we|apply wb|apply wc|apply wf|apply wg|apply wh|(apply wi;apply rfl)|apply wj|apply wk|apply wl|apply wm|apply wn|(apply s_load tk;apply rfl;apply rfl;(assumption);apply rfl;apply rfl)|(apply s_ept tk;apply rfl;apply rfl;apply rfl;apply rfl))
        exact rt1 rfl rfl (.refl _) hsub (hK false (fun e => by cases e))
    · repeat (first|(apply w1;apply rfl;apply rfl)|(apply w2;apply rfl)|(apply w3;apply rfl;apply rfl)|apply w4|apply w5|apply w6|apply w7|(apply w8;apply rfl)|(apply w9;apply rfl)|apply wa|apply wd|apply we|apply wb|apply wc|apply wf|apply wg|apply wh|(apply wi;apply rfl)|apply wj|apply wk|apply wl|apply wm|apply wn|(apply s_load tk;apply rfl;apply rfl;(assumption);apply rfl;apply rfl)|(apply s_ept tk;apply rfl;apply rfl;apply rfl;apply rfl))
      exact rt1 rfl rfl (.refl _) hsub (hK false (fun e => by cases e))
theorem small_c {l : List Ac} {o : Own} {H : AHeap} {K : AVal → AHeap → Prop} (hl : l.length ≤ 9223372036854775807) (hn : ∀ a ∈ l, a.n.len) (hK : ∀ b, (b = true → l.length ≤ 40 ∧ ∀ a ∈ l, a.n.few) → K (.b b) H) :
    ACalls Try.prog 28 [.sl (l.map encAc) o] H K := by
  refine acalls_body Try.func28 rfl rfl rfl ?_
  have hll : (l.map encAc).length = l.length := by simp
  repeat (first|(apply w1;apply rfl;apply rfl)|(apply w2;apply rfl)|(apply w3;apply rfl;apply rfl)|apply w4|apply w5|apply w6|apply w7|(apply w8;apply rfl)|(apply w9;apply rfl)|apply wa|apply wd|apply we|apply wb|apply wc|apply wf|apply wg|apply wh|(apply wi;apply rfl)|apply wj|apply wk|apply wl|apply wm|apply wn)
  refine aw_loop (fun k : Nat => k ≤ l.length ∧ ∀ j (h : j < l.length), j < k → l[j].n.few) (fun k => [(0, .sl (l.map encAc) o), (3, .i k)]) (fun _ => H) (fun k => l.length - k) 0 ⟨Nat.zero_le _, fun j _ h => absurd h (Nat.not_lt_zero _)⟩ (Fr.sub_cons rfl (Fr.sub_cons rfl (Fr.sub_nil _))) (AHeap.sub_refl _) ?_
  intro k ⟨hk, hall⟩
  repeat (first|(apply w1;apply rfl;apply rfl)|(apply w2;apply rfl)|(apply w3;apply rfl;apply rfl)|apply w4|apply w5|apply w6|apply w7|(apply w8;apply rfl)|(apply w9;apply rfl)|apply wa|apply wd|apply we|apply wb|apply wc|apply wf|apply wg|apply wh|(apply wi;apply rfl)|apply wj|apply wk|apply wl|apply wm|apply wn)
  refine aw_cond rfl (fun c => ?_) (fun c => ?_)
  · have c' : k < l.length := by simpa using c
    repeat (first|(apply w1;apply rfl;apply rfl)|(apply w2;apply rfl)|(apply w3;apply rfl;apply rfl)|apply w4|apply w5|apply w6|apply w7|(apply w8;apply rfl)|(apply w9;apply rfl)|apply wa|apply wd|apply we|apply wb|apply wc|apply wf|apply wg|apply wh|(apply wi;apply rfl)|apply wj|apply wk|apply wl|apply wm|apply wn)
    refine s_index tk rfl rfl rfl rfl (by omega) (show (l.map encAc)[(k : Int).toNat]? = some (encAc l[k]) by simp [c']) rfl ?_
    repeat (first|(apply w1;apply rfl;apply rfl)|(apply w2;apply rfl)|(apply w3;apply rfl;apply rfl)|apply w4|apply w5|apply w6|apply w7|(apply w8;apply rfl)|(apply w9;apply rfl)|apply wa|apply wd|apply we|apply wb|apply wc|apply wf|apply wg|apply wh|(apply wi;apply rfl)|apply wj|apply wk|apply wl|apply wm|apply wn)
    refine s_epta (ds := encNode l[k].n) tk rfl rfl rfl (Nat.le_refl 9) rfl ?_
    repeat (first|(apply w1;apply rfl;apply rfl)|(apply w2;apply rfl)|(apply w3;apply rfl;apply rfl)|apply w4|apply w5|apply w6|apply w7|(apply w8;apply rfl)|(apply w9;apply rfl)|apply wa|apply wd|apply we|apply wb|apply wc|apply wf|apply wg|apply wh|(apply wi;apply rfl)|apply wj|apply wk|apply wl|apply wm|apply wn)
    refine s_call rfl rfl fk48 ?_
    refine few09_c (hn _ (List.getElem_mem c')) (fun b hb => ?_)
    repeat (first|(apply w1;apply rfl;apply rfl)|(apply w2;apply rfl)|(apply w3;apply rfl;apply rfl)|apply w4|apply w5|apply w6|apply w7|(apply w8;apply rfl)|(apply w9;apply rfl)|apply wa|apply wd|apply we|apply wb|apply wc|apply wf|apply wg|apply wh|(apply wi;apply rfl)|apply wj|apply wk|apply wl|apply wm|apply wn)
    refine aw_cond rfl (fun g => ?_) (fun g => ?_)
    · repeat (first|(apply w1;apply rfl;apply rfl)|(apply w2;apply rfl)|(apply w3;apply rfl;apply rfl)|apply w4|apply w5|apply w6|apply w7|(apply w8;apply rfl)|(apply w9;apply rfl)|apply wa|apply wd|apply we|apply wb|apply wc|apply wf|apply wg|apply wh|(apply wi;apply rfl)|apply wj|apply wk|apply wl|apply wm|apply wn)
      exact rt1 rfl rfl (.refl _) (AHeap.sub_refl _) (hK false (fun e => by cases e))
    · repeat (first|(apply w1;apply rfl;apply rfl)|(apply w2;apply rfl)|(apply w3;apply rfl;apply rfl)|apply w4|apply w5|apply w6|apply w7|(apply w8;apply rfl)|(apply w9;apply rfl)|apply wa|apply wd|apply we|apply wb|apply wc|apply wf|apply wg|apply wh|(apply wi;apply rfl)|apply wj|apply wk|apply wl|apply wm|apply wn)
      refine s_add rfl rfl rfl (by omega) ?_
      repeat (first|(apply w1;apply rfl;apply rfl)|(apply w2;apply rfl)|(apply w3;apply rfl;apply rfl)|apply w4|apply w5|apply w6|apply w7|(apply w8;apply rfl)|(apply w9;apply rfl)|apply wa|apply wd|apply we|apply wb|apply wc|apply wf|apply wg|apply wh|(apply wi;apply rfl)|apply wj|apply wk|apply wl|apply wm|apply wn)
      refine ⟨k + 1, ⟨by omega, fun j hj hjk => ?_⟩, by omega, Fr.sub_cons rfl (Fr.sub_cons rfl (Fr.sub_nil _)), AHeap.sub_refl _⟩
      rcases Nat.lt_or_ge j k with h | h
      · exact hall j hj h
      · have : j = k := by omega
        subst this
        exact hb (by simpa using g)
  · have hkl : k = l.length := by have : ¬ k < l.length := by simpa using c
                                  omega
    subst hkl
    repeat (first|(apply w1;apply rfl;apply rfl)|(apply w2;apply rfl)|(apply w3;apply rfl;apply rfl)|apply w4|apply w5|apply w6|apply w7|(apply w8;apply rfl)|(apply w9;apply rfl)|apply wa|apply wd|apply we|apply wb|apply wc|apply wf|apply wg|apply wh|(apply wi;apply rfl)|apply wj|apply wk|apply wl|apply wm|apply wn)
    refine rt1 rfl rfl (.refl _) (AHeap.sub_refl _) (hK _ (fun e => ⟨by have := of_decide_eq_true e; rw [hll] at this; omega, fun x hx => ?_⟩))
    obtain ⟨j, hj, rfl⟩ := List.getElem_of_mem hx
    exact hall j hj hj
end Abs
end Go.Proofs.Ytbldnaflffmddaa

set_option linter.unusedVariables false
namespace Go.Proofs.Ytbldnaflffmddaa
namespace Abs
set_option maxRecDepth 10000
attribute [local irreducible] AOps AW ACalls thenQ inBlk noGoto

/-! ### the document's example -/
def exN : Node := ⟨2, 493, 0, 0, ⟨#[]⟩, [], ⟨#[]⟩⟩
theorem exN_ok : nodeOk exN = true := by decide
theorem exN_small : exN.small := ⟨by decide, by decide⟩
def tab0 : Tab := Tab.new 2
def tab1 : Tab := tab0.put 0 exN
def tab2 : Tab := tab1.put 1 exN
def tab3 : Tab := tab2.put 0 Node.zero
def tab4 : Tab := tab3.put 0 exN
theorem tab0_wf : tab0.wf := new_wf 2
theorem tab1_wf : tab1.wf := put_wf tab0_wf exN_small 0
theorem tab2_wf : tab2.wf := put_wf tab1_wf exN_small 1
theorem tab3_wf : tab3.wf := put_wf tab2_wf Node.zero_small 0
theorem tab4_wf : tab4.wf := put_wf tab3_wf exN_small 0
theorem lt2 {k : Nat} (h : (k : Int) < 2) : k = 0 ∨ k = 1 := by omega

theorem awake_c {H : AHeap} {K : AVal → AHeap → Prop} (hK : K (.b true) H) : ACalls Try.prog 27 [] H K := by
  refine acalls_body Try.func27 rfl rfl rfl ?_
  repeat (first|(apply w1;apply rfl;apply rfl)|(apply w2;apply rfl)|(apply w3;apply rfl;apply rfl)|apply w4|apply w5|apply w6|apply w7|(apply w8;apply rfl)|(apply w9;apply rfl)|apply wa|apply wd|apply we|apply wb|apply wc|apply wf|apply wg|apply wh|(apply wi;apply rfl)|apply wj|apply wk|apply wl|apply wm|apply wn)
  refine s_call rfl rfl fk29 ?_
  refine new_c (fun t ht => ?_)
  repeat (first|(apply w1;apply rfl;apply rfl)|(apply w2;apply rfl)|(apply w3;apply rfl;apply rfl)|apply w4|apply w5|apply w6|apply w7|(apply w8;apply rfl)|(apply w9;apply rfl)|apply wa|apply wd|apply we|apply wb|apply wc|apply wf|apply wg|apply wh|(apply wi;apply rfl)|apply wj|apply wk|apply wl|apply wm|apply wn)
  refine s_build tk rfl rfl rfl rfl rfl rfl ?_
  repeat (first|(apply w1;apply rfl;apply rfl)|(apply w2;apply rfl)|(apply w3;apply rfl;apply rfl)|apply w4|apply w5|apply w6|apply w7|(apply w8;apply rfl)|(apply w9;apply rfl)|apply wa|apply wd|apply we|apply wb|apply wc|apply wf|apply wg|apply wh|(apply wi;apply rfl)|apply wj|apply wk|apply wl|apply wm|apply wn)
  refine s_alloc tk rfl rfl rfl (fun b hb => ?_)
  obtain ⟨hbt, hb'⟩ := put_none hb
  repeat (first|(apply w1;apply rfl;apply rfl)|(apply w2;apply rfl)|(apply w3;apply rfl;apply rfl)|apply w4|apply w5|apply w6|apply w7|(apply w8;apply rfl)|(apply w9;apply rfl)|apply wa|apply wd|apply we|apply wb|apply wc|apply wf|apply wg|apply wh|(apply wi;apply rfl)|apply wj|apply wk|apply wl|apply wm|apply wn)
  refine s_storew tk rfl rfl (put_same _ _ _) rfl rfl rfl rfl ?_
  rw [put_put]
  have hwk : ((H.put t (.cells (encTab tab0))).put b (.cells (encNode exN))).sub ((H.put t (.cells (encTab (Tab.new 2)))).put b (.cells [.i 2, .i 493, .i 0, .i 0, .sl [] .full, .sl [] .full, .s ⟨#[]⟩])) := AHeap.put_sub_wk (AHeap.sub_refl _) b (.cells (wk_agg rfl))
  refine AOps_sub ?_ (Fr.sub_refl _) hwk
  have hT0 : ((H.put t (.cells (encTab tab0))).put b (.cells (encNode exN))) t = some (.cells (encTab tab0)) := by rw [put_ne (Ne.symm hbt), put_same]
  generalize hH0 : ((H.put t (.cells (encTab tab0))).put b (.cells (encNode exN))) = H0 at hT0 ⊢
  have hB0 : H0 b = some (.cells (encNode exN)) := by rw [← hH0, put_same]
  have hs : H.sub H0 := by rw [← hH0]; exact sub_new hb' (sub_new ht (AHeap.sub_refl _))
  have hB : ∀ T : Tab, (H0.put t (.cells (encTab T))) b = some (.cells (encNode exN)) := fun T => by rw [put_ne hbt]; exact hB0
  repeat (first|(apply w1;apply rfl;apply rfl)|(apply w2;apply rfl)|(apply w3;apply rfl;apply rfl)|apply w4|apply w5|apply w6|apply w7|(apply w8;apply rfl)|(apply w9;apply rfl)|apply wa|apply wd|apply we|apply wb|apply wc|apply wf|apply wg|apply wh|(apply wi;apply rfl)|apply wj|apply wk|apply wl|apply wm|apply wn)
  refine s_loadw tk rfl rfl (.inl hB0) rfl rfl ?_
  repeat (first|(apply w1;apply rfl;apply rfl)|(apply w2;apply rfl)|(apply w3;apply rfl;apply rfl)|apply w4|apply w5|apply w6|apply w7|(apply w8;apply rfl)|(apply w9;apply rfl)|apply wa|apply wd|apply we|apply wb|apply wc|apply wf|apply wg|apply wh|(apply wi;apply rfl)|apply wj|apply wk|apply wl|apply wm|apply wn)
  refine s_call rfl rfl fk35 ?_
  refine add_c tab0_wf exN_small hT0 (fun h => absurd exN_ok (by rw [h]; decide)) (fun k _ hk hall hno => ?_) (fun _ hall => absurd (hall 0 (by decide)) (by decide))
  rcases lt2 hk with rfl | rfl
  case inr => exact absurd (hall 0 (by decide)) (by decide)
  clear hall hno hk
  change AOps _ _ _ _ _ (H0.put t (.cells (encTab tab1))) _
  repeat (first|(apply w1;apply rfl;apply rfl)|(apply w2;apply rfl)|(apply w3;apply rfl;apply rfl)|apply w4|apply w5|apply w6|apply w7|(apply w8;apply rfl)|(apply w9;apply rfl)|apply wa|apply wd|apply we|apply wb|apply wc|apply wf|apply wg|apply wh|(apply wi;apply rfl)|apply wj|apply wk|apply wl|apply wm|apply wn)
  refine s_loadw tk rfl rfl (.inl (hB _)) rfl rfl ?_
  repeat (first|(apply w1;apply rfl;apply rfl)|(apply w2;apply rfl)|(apply w3;apply rfl;apply rfl)|apply w4|apply w5|apply w6|apply w7|(apply w8;apply rfl)|(apply w9;apply rfl)|apply wa|apply wd|apply we|apply wb|apply wc|apply wf|apply wg|apply wh|(apply wi;apply rfl)|apply wj|apply wk|apply wl|apply wm|apply wn)
  refine s_call rfl rfl fk35 ?_
  refine add_c tab1_wf exN_small (put_same _ _ _) (fun h => absurd exN_ok (by rw [h]; decide)) (fun k _ hk hall hno => ?_) (fun _ hall => absurd (hall 1 (by decide)) (by decide))
  rcases lt2 hk with rfl | rfl
  · exact absurd hno (by decide)
  clear hall hno hk
  rw [put_put]
  change AOps _ _ _ _ _ (H0.put t (.cells (encTab tab2))) _
  repeat (first|(apply w1;apply rfl;apply rfl)|(apply w2;apply rfl)|(apply w3;apply rfl;apply rfl)|apply w4|apply w5|apply w6|apply w7|(apply w8;apply rfl)|(apply w9;apply rfl)|apply wa|apply wd|apply we|apply wb|apply wc|apply wf|apply wg|apply wh|(apply wi;apply rfl)|apply wj|apply wk|apply wl|apply wm|apply wn)
  refine s_loadw tk rfl rfl (.inl (hB _)) rfl rfl ?_
  repeat (first|(apply w1;apply rfl;apply rfl)|(apply w2;apply rfl)|(apply w3;apply rfl;apply rfl)|apply w4|apply w5|apply w6|apply w7|(apply w8;apply rfl)|(apply w9;apply rfl)|apply wa|apply wd|apply we|apply wb|apply wc|apply wf|apply wg|apply wh|(apply wi;apply rfl)|apply wj|apply wk|apply wl|apply wm|apply wn)
  refine s_call rfl rfl fk35 ?_
  refine add_c tab2_wf exN_small (put_same _ _ _) (fun h => absurd exN_ok (by rw [h]; decide)) (fun k _ hk hall hno => ?_) (fun _ hall => ?_)
  · rcases lt2 hk with rfl | rfl <;> exact absurd hno (by decide)
  repeat (first|(apply w1;apply rfl;apply rfl)|(apply w2;apply rfl)|(apply w3;apply rfl;apply rfl)|apply w4|apply w5|apply w6|apply w7|(apply w8;apply rfl)|(apply w9;apply rfl)|apply wa|apply wd|apply we|apply wb|apply wc|apply wf|apply wg|apply wh|(apply wi;apply rfl)|apply wj|apply wk|apply wl|apply wm|apply wn)
  refine s_call rfl rfl fk46 ?_
  refine drop_c tab2_wf (put_same _ _ _) ?_
  rw [if_pos (by decide), put_put]
  change AOps _ _ _ _ _ (H0.put t (.cells (encTab tab3))) _
  repeat (first|(apply w1;apply rfl;apply rfl)|(apply w2;apply rfl)|(apply w3;apply rfl;apply rfl)|apply w4|apply w5|apply w6|apply w7|(apply w8;apply rfl)|(apply w9;apply rfl)|apply wa|apply wd|apply we|apply wb|apply wc|apply wf|apply wg|apply wh|(apply wi;apply rfl)|apply wj|apply wk|apply wl|apply wm|apply wn)
  refine s_loadw tk rfl rfl (.inl (hB _)) rfl rfl ?_
  repeat (first|(apply w1;apply rfl;apply rfl)|(apply w2;apply rfl)|(apply w3;apply rfl;apply rfl)|apply w4|apply w5|apply w6|apply w7|(apply w8;apply rfl)|(apply w9;apply rfl)|apply wa|apply wd|apply we|apply wb|apply wc|apply wf|apply wg|apply wh|(apply wi;apply rfl)|apply wj|apply wk|apply wl|apply wm|apply wn)
  refine s_call rfl rfl fk35 ?_
  refine add_c tab3_wf exN_small (put_same _ _ _) (fun h => absurd exN_ok (by rw [h]; decide)) (fun k _ hk hall hno => ?_) (fun _ hall => absurd (hall 0 (by decide)) (by decide))
  rcases lt2 hk with rfl | rfl
  case inr => exact absurd (hall 0 (by decide)) (by decide)
  rw [put_put]
  change AOps _ _ _ _ _ (H0.put t (.cells (encTab tab4))) _
  repeat (first|(apply w1;apply rfl;apply rfl)|(apply w2;apply rfl)|(apply w3;apply rfl;apply rfl)|apply w4|apply w5|apply w6|apply w7|(apply w8;apply rfl)|(apply w9;apply rfl)|apply wa|apply wd|apply we|apply wb|apply wc|apply wf|apply wg|apply wh|(apply wi;apply rfl)|apply wj|apply wk|apply wl|apply wm|apply wn)
  refine s_call rfl rfl fk33 ?_
  refine room_c (T := tab4) (.inl (put_same _ _ _)) ?_
  repeat (first|(apply w1;apply rfl;apply rfl)|(apply w2;apply rfl)|(apply w3;apply rfl;apply rfl)|apply w4|apply w5|apply w6|apply w7|(apply w8;apply rfl)|(apply w9;apply rfl)|apply wa|apply wd|apply we|apply wb|apply wc|apply wf|apply wg|apply wh|(apply wi;apply rfl)|apply wj|apply wk|apply wl|apply wm|apply wn)
  refine s_call rfl rfl fk47 ?_
  refine used_c tab4_wf (.inl (put_same _ _ _)) ?_
  repeat (first|(apply w1;apply rfl;apply rfl)|(apply w2;apply rfl)|(apply w3;apply rfl;apply rfl)|apply w4|apply w5|apply w6|apply w7|(apply w8;apply rfl)|(apply w9;apply rfl)|apply wa|apply wd|apply we|apply wb|apply wc|apply wf|apply wg|apply wh|(apply wi;apply rfl)|apply wj|apply wk|apply wl|apply wm|apply wn)
  exact rt1 rfl rfl (.refl _) (sub_new ht hs) hK
end Abs
end Go.Proofs.Ytbldnaflffmddaa

set_option linter.unusedVariables false
namespace Go.Proofs.Ytbldnaflffmddaa
namespace Abs
set_option maxRecDepth 10000
attribute [local irreducible] AOps AW ACalls thenQ inBlk noGoto

/-! ### what a table counts -/
theorem has_put {T : Tab} (hl : T.nodes.length = 24) {k : Nat} (hk : k < 24) (n : Node) (j : Nat) : (T.put k n).has (j + 1) = if j = k then decide ((k : Int) < T.room) && !decide (n.kind = 0) else T.has (j + 1) := by
  unfold Tab.has Tab.put
  simp only [show ((j : Int) + 1 - 1).toNat = j by omega, decide_eq_true (show (1 : Int) ≤ (j : Int) + 1 by omega), Bool.true_and]
  by_cases h : j = k
  · subst h
    rw [if_pos rfl, List.getD_eq_getElem?_getD, List.getElem?_set_self (by omega)]
    rfl
  · rw [if_neg h, List.getD_eq_getElem?_getD, List.getElem?_set_ne (Ne.symm h), ← List.getD_eq_getElem?_getD]
/-! ### the numbers that are used, as the law keeps them -/
end Abs
end Go.Proofs.Ytbldnaflffmddaa

set_option linter.unusedVariables false
namespace Go.Proofs.Ytbldnaflffmddaa
namespace Abs
set_option maxRecDepth 10000
attribute [local irreducible] AOps AW ACalls thenQ inBlk noGoto

/-! ### all entries, and all links: the plain law -/
def Tab.all (T : Tab) : Nat → List Int
  | 0 => []
  | k + 1 => T.all k ++ (T.nd k).ents.map (·.node)
def cnt (i : Int) (A : List Int) : Nat := (A.filter fun a => decide (a = i)).length
end Abs
end Go.Proofs.Ytbldnaflffmddaa

set_option linter.unusedVariables false
namespace Go.Proofs.Ytbldnaflffmddaa
namespace Abs
set_option maxRecDepth 10000
attribute [local irreducible] AOps AW ACalls thenQ inBlk noGoto

/-! ### a table, and its nodes as a list: the plain law -/
/-- A list that tells a table's nodes. -/
structure Rel (T : Tab) (L : List Node) : Prop where
  len : T.room ≤ L.length
  most : L.length ≤ 1000
  get : ∀ k : Nat, L.getD k Node.zero = T.nd k
theorem nodeOk_kind {n : Node} (h : nodeOk n = true) : n.kind = 1 ∨ n.kind = 2 ∨ n.kind = 3 := by
  unfold nodeOk at h
  by_cases h1 : n.kind = 1
  · exact .inl h1
  by_cases h2 : n.kind = 2
  · exact .inr (.inl h2)
  by_cases h3 : n.kind = 3
  · exact .inr (.inr h3)
  rw [if_neg h1, if_neg h2, if_neg h3, Bool.and_false] at h
  cases h
theorem same_refl (a : Node) : a.same a = true := by simp [Node.same]
theorem nd_put {T : Tab} (hl : T.nodes.length = 24) {k : Nat} (hk : (k : Int) < T.room) (h24 : k < 24) {n : Node} (hn : n = Node.zero ∨ nodeOk n = true) (j : Nat) : (T.put k n).nd j = if j = k then n else T.nd j := by
  have hg : ∀ i : Int, (T.put k n).get i = if (i - 1).toNat = k then n else T.get i := fun i => by
    unfold Tab.get Tab.put
    rw [List.getD_eq_getElem?_getD, List.getD_eq_getElem?_getD, List.getElem?_set]
    by_cases e : k = (i - 1).toNat
    · rw [if_pos e, if_pos (by omega), if_pos e.symm]; rfl
    · rw [if_neg e, if_neg (fun h => e h.symm)]
  unfold Tab.nd
  rw [hg, has_put hl h24, show ((j : Int) + 1 - 1).toNat = j by omega]
  by_cases e : j = k
  · rw [if_pos e, if_pos e, if_pos e, decide_eq_true hk, Bool.true_and]
    rcases hn with rfl | h
    · rfl
    · have := nodeOk_kind h
      rw [decide_eq_false (show ¬ n.kind = 0 by omega)]; rfl
  · rw [if_neg e, if_neg e, if_neg e]
end Abs
end Go.Proofs.Ytbldnaflffmddaa
