import Derived.Test.YtmokoofibnoojaaQ1
set_option linter.unusedVariables false
namespace Go.Proofs.Ytmokoofibnoojaa
namespace Abs
set_option maxRecDepth 10000
attribute [local irreducible] AOps AW AP ACalls thenQ inBlk noGoto

/-! ### the document's chapter 08: nodes -/
def encNames (l : List Ent) : List (List AVal) := l.map fun e => [.s e.name]
def encKids (l : List Ent) : List (List AVal) := l.map fun e => [.i e.node]
def encM (n : Node) : List AVal := [.i n.kind, .i n.mode, .i n.uid, .i n.gid, .s n.data, .sl (encNames n.ents) .no, .sl (encKids n.ents) .no, .s n.target]
theorem names_len (l : List Ent) : (encNames l).length = l.length := by simp [encNames]
theorem kids_len (l : List Ent) : (encKids l).length = l.length := by simp [encKids]
theorem names_get (l : List Ent) (k : Nat) (h : k < l.length) : (encNames l)[(k : Int).toNat]? = some [.s l[k].name] := by simp [encNames, h]
theorem kids_get (l : List Ent) (k : Nat) (h : k < l.length) : (encKids l)[(k : Int).toNat]? = some [.i l[k].node] := by simp [encKids, h]
theorem rin_c {n h : Int} {H : AHeap} {K : AVal → AHeap → Prop} (hK : K (.b (decide (0 ≤ n) && decide (n ≤ h))) H) : ACalls Try.prog 70 [.i n, .i h] H K := by
  refine acalls_body Try.func70 rfl rfl rfl ?_
  repeat (first|(apply w1;apply rfl;apply rfl)|(apply w2;apply rfl)|(apply w3;apply rfl;apply rfl)|apply w4|apply w5|apply w6|apply w7|(apply w8;apply rfl)|(apply w9;apply rfl)|apply wa|apply wd|apply we|apply wb|apply wc|apply wf|apply wg|apply wh|(apply wi;apply rfl)|apply wj|apply wk|apply wl|apply wm|apply wn)
  refine s_gsplit rfl rfl (fun g1 => ?_) (fun g1 => ?_) <;> repeat (first|(apply w1;apply rfl;apply rfl)|(apply w2;apply rfl)|(apply w3;apply rfl;apply rfl)|apply w4|apply w5|apply w6|apply w7|(apply w8;apply rfl)|(apply w9;apply rfl)|apply wa|apply wd|apply we|apply wb|apply wc|apply wf|apply wg|apply wh|(apply wi;apply rfl)|apply wj|apply wk|apply wl|apply wm|apply wn)
  · exact rt1 rfl rfl (.refl _) (AHeap.sub_refl _) (by simpa [g1] using hK)
  · exact rt1 rfl rfl (.refl _) (AHeap.sub_refl _) (by simpa [g1] using hK)
def Node.nlen (n : Node) : Prop := n.ents.length ≤ 1073741824 ∧ ∀ e ∈ n.ents, e.name.size ≤ 1073741824
set_option maxHeartbeats 1000000 in
theorem rents_c {n : Node} (hn : n.nlen) {H : AHeap} {K : AVal → AHeap → Prop} (hK : K (.b (rising n.ents)) H) : ACalls Try.prog 71 [.agg (encM n)] H K := by
  refine acalls_body Try.func71 rfl rfl rfl ?_
  obtain ⟨hn1, hn2⟩ := hn
  repeat (first|(apply w1;apply rfl;apply rfl)|(apply w2;apply rfl)|(apply w3;apply rfl;apply rfl)|apply w4|apply w5|apply w6|apply w7|(apply w8;apply rfl)|(apply w9;apply rfl)|apply wa|apply wd|apply we|apply wb|apply wc|apply wf|apply wg|apply wh|(apply wi;apply rfl)|apply wj|apply wk|apply wl|apply wm|apply wn)
  refine s_box rfl rfl rfl (fun b hb => ?_)
  have hsub : H.sub (H.put b (.cells (encM n))) := sub_new hb (AHeap.sub_refl _)
  have hrd : Rd (H.put b (.cells (encM n))) b (encM n) := .inl (put_same _ _ _)
  have ln := names_len n.ents
  have lk := kids_len n.ents
  generalize hX : H.put b (.cells (encM n)) = X at hsub hrd ⊢
  generalize hl : n.ents = l at *
  have henc : encM n = [.i n.kind, .i n.mode, .i n.uid, .i n.gid, .s n.data, .sl (encNames l) .no, .sl (encKids l) .no, .s n.target] := by rw [← hl]; rfl
  rw [henc] at hrd
  repeat (first|(apply w1;apply rfl;apply rfl)|(apply w2;apply rfl)|(apply w3;apply rfl;apply rfl)|apply w4|apply w5|apply w6|apply w7|(apply w8;apply rfl)|(apply w9;apply rfl)|apply wa|apply wd|apply we|apply wb|apply wc|apply wf|apply wg|apply wh|(apply wi;apply rfl)|apply wj|apply wk|apply wl|apply wm|apply wn|(apply s_load tk;apply rfl;apply rfl;(assumption);apply rfl;apply rfl)|(apply s_ept tk;apply rfl;apply rfl;apply rfl;apply rfl))
  refine aw_loop (fun k : Nat => k ≤ l.length ∧ risingFrom none l = risingFrom (prevAt l k) (l.drop k)) (fun k => [(1, .ptr b 0), (3, .i k)]) (fun _ => X) (fun k => l.length - k) 0 ⟨Nat.zero_le _, rfl⟩ (Fr.sub_cons rfl (Fr.sub_cons rfl (Fr.sub_nil _))) (AHeap.sub_refl _) ?_
  intro k ⟨hk, hr⟩
  repeat (first|(apply w1;apply rfl;apply rfl)|(apply w2;apply rfl)|(apply w3;apply rfl;apply rfl)|apply w4|apply w5|apply w6|apply w7|(apply w8;apply rfl)|(apply w9;apply rfl)|apply wa|apply wd|apply we|apply wb|apply wc|apply wf|apply wg|apply wh|(apply wi;apply rfl)|apply wj|apply wk|apply wl|apply wm|apply wn|(apply s_load tk;apply rfl;apply rfl;(assumption);apply rfl;apply rfl)|(apply s_ept tk;apply rfl;apply rfl;apply rfl;apply rfl))
  refine aw_cond rfl (fun c => ?_) (fun c => ?_)
  case refine_2 =>
    have hkl : k = l.length := by have := of_decide_eq_false c; omega
    subst hkl
    repeat (first|(apply w1;apply rfl;apply rfl)|(apply w2;apply rfl)|(apply w3;apply rfl;apply rfl)|apply w4|apply w5|apply w6|apply w7|(apply w8;apply rfl)|(apply w9;apply rfl)|apply wa|apply wd|apply we|apply wb|apply wc|apply wf|apply wg|apply wh|(apply wi;apply rfl)|apply wj|apply wk|apply wl|apply wm|apply wn|(apply s_load tk;apply rfl;apply rfl;(assumption);apply rfl;apply rfl)|(apply s_ept tk;apply rfl;apply rfl;apply rfl;apply rfl))
    refine rt1 rfl rfl (.refl _) hsub ?_
    have : rising l = decide (((encNames l).length : Int) ≤ 8) := by simp [rising, hr, risingFrom, ln]
    rw [← this]; exact hK
  have c' : k < l.length := by have := of_decide_eq_true c; omega
  repeat (first|(apply w1;apply rfl;apply rfl)|(apply w2;apply rfl)|(apply w3;apply rfl;apply rfl)|apply w4|apply w5|apply w6|apply w7|(apply w8;apply rfl)|(apply w9;apply rfl)|apply wa|apply wd|apply we|apply wb|apply wc|apply wf|apply wg|apply wh|(apply wi;apply rfl)|apply wj|apply wk|apply wl|apply wm|apply wn|(apply s_load tk;apply rfl;apply rfl;(assumption);apply rfl;apply rfl)|(apply s_ept tk;apply rfl;apply rfl;apply rfl;apply rfl))
  refine s_index tk rfl rfl rfl rfl (by omega) (names_get l k c') rfl ?_
  repeat (first|(apply w1;apply rfl;apply rfl)|(apply w2;apply rfl)|(apply w3;apply rfl;apply rfl)|apply w4|apply w5|apply w6|apply w7|(apply w8;apply rfl)|(apply w9;apply rfl)|apply wa|apply wd|apply we|apply wb|apply wc|apply wf|apply wg|apply wh|(apply wi;apply rfl)|apply wj|apply wk|apply wl|apply wm|apply wn|(apply s_load tk;apply rfl;apply rfl;(assumption);apply rfl;apply rfl)|(apply s_ept tk;apply rfl;apply rfl;apply rfl;apply rfl))
  refine s_call rfl rfl fk107 ?_
  refine rname_c ?_
  repeat (first|(apply w1;apply rfl;apply rfl)|(apply w2;apply rfl)|(apply w3;apply rfl;apply rfl)|apply w4|apply w5|apply w6|apply w7|(apply w8;apply rfl)|(apply w9;apply rfl)|apply wa|apply wd|apply we|apply wb|apply wc|apply wf|apply wg|apply wh|(apply wi;apply rfl)|apply wj|apply wk|apply wl|apply wm|apply wn|(apply s_load tk;apply rfl;apply rfl;(assumption);apply rfl;apply rfl)|(apply s_ept tk;apply rfl;apply rfl;apply rfl;apply rfl))
  have hdrop : l.drop k = l[k] :: l.drop (k + 1) := List.drop_eq_getElem_cons c'
  have hnext : prevAt l (k + 1) = some l[k].name := by simp [prevAt, c']
  have hstep : risingFrom none l = (nameOk l[k].name && decide (1 ≤ l[k].node) && (match prevAt l k with | none => true | some p => Op.bytesLess p.toList l[k].name.toList) && risingFrom (some l[k].name) (l.drop (k + 1))) := by rw [hr, hdrop]; rfl
  clear hr hdrop
  have hfalse : rising l = false → K (.b false) H := fun h => by rw [h] at hK; exact hK
  have hnk := hn2 _ (List.getElem_mem c')
  refine aw_prot [b] (allc hrd (allc0 _)) ?_
  have hro := prot_get (bs := [b]) (List.mem_singleton.2 rfl) hrd
  refine aw_plan mixed (.take 0 (.take 1 (.take 2 (.take 3 (.take 4 (.take 5 (.take 6 (.take 7 (.take 8 (.take 9 (.take 10 (.take 11 (.take 12 (.take 13 (.take 14 (.take 15 (.take 16 (.take 17 (.take 18 (.take 19 (.take 20 (.take 21 (.take 22 (.take 23 (.take 24 (.one 25 (.take 26 (.take 27 (.take 28 .done))))))))))))))))))))))))))))) (by kernel_rfl) ?_
  repeat (first|(apply d1;apply rfl;apply rfl;apply rfl;apply rfl)|(apply d2;apply rfl;apply rfl;apply rfl)|apply d3|(apply d5;apply rfl;apply rfl;apply rfl)|(apply d_ro;apply rfl;apply rfl;apply rfl;apply rfl;(assumption);apply rfl;apply rfl)|(apply d_ept;apply rfl;apply rfl;apply rfl;apply rfl;apply rfl;apply rfl))
  refine d_split rfl rfl rfl (fun g1 => ?_) (fun g1 => ?_)
  · repeat (first|(apply d1;apply rfl;apply rfl;apply rfl;apply rfl)|(apply d2;apply rfl;apply rfl;apply rfl)|apply d3|(apply d5;apply rfl;apply rfl;apply rfl)|(apply d_ro;apply rfl;apply rfl;apply rfl;apply rfl;(assumption);apply rfl;apply rfl)|(apply d_ept;apply rfl;apply rfl;apply rfl;apply rfl;apply rfl;apply rfl))
    refine prot_done ?_
    repeat (first|(apply w1;apply rfl;apply rfl)|(apply w2;apply rfl)|(apply w3;apply rfl;apply rfl)|apply w4|apply w5|apply w6|apply w7|(apply w8;apply rfl)|(apply w9;apply rfl)|apply wa|apply wd|apply we|apply wb|apply wc|apply wf|apply wg|apply wh|(apply wi;apply rfl)|apply wj|apply wk|apply wl|apply wm|apply wn|(apply s_load tk;apply rfl;apply rfl;(assumption);apply rfl;apply rfl)|(apply s_ept tk;apply rfl;apply rfl;apply rfl;apply rfl))
    refine rt1 rfl rfl (.refl _) hsub (hfalse ?_)
    have g1' : nameOk l[k].name = false := by simpa using g1
    rw [rising, hstep, g1']; simp
  have g1' : nameOk l[k].name = true := by simpa using g1
  repeat (first|(apply d1;apply rfl;apply rfl;apply rfl;apply rfl)|(apply d2;apply rfl;apply rfl;apply rfl)|apply d3|(apply d5;apply rfl;apply rfl;apply rfl)|(apply d_ro;apply rfl;apply rfl;apply rfl;apply rfl;(assumption);apply rfl;apply rfl)|(apply d_ept;apply rfl;apply rfl;apply rfl;apply rfl;apply rfl;apply rfl))
  refine d_index rfl rfl rfl rfl rfl rfl (by omega) (kids_get l k c') rfl ?_
  repeat (first|(apply d1;apply rfl;apply rfl;apply rfl;apply rfl)|(apply d2;apply rfl;apply rfl;apply rfl)|apply d3|(apply d5;apply rfl;apply rfl;apply rfl)|(apply d_ro;apply rfl;apply rfl;apply rfl;apply rfl;(assumption);apply rfl;apply rfl)|(apply d_ept;apply rfl;apply rfl;apply rfl;apply rfl;apply rfl;apply rfl))
  refine d_split rfl rfl rfl (fun g2 => ?_) (fun g2 => ?_)
  · repeat (first|(apply d1;apply rfl;apply rfl;apply rfl;apply rfl)|(apply d2;apply rfl;apply rfl;apply rfl)|apply d3|(apply d5;apply rfl;apply rfl;apply rfl)|(apply d_ro;apply rfl;apply rfl;apply rfl;apply rfl;(assumption);apply rfl;apply rfl)|(apply d_ept;apply rfl;apply rfl;apply rfl;apply rfl;apply rfl;apply rfl))
    refine prot_done ?_
    repeat (first|(apply w1;apply rfl;apply rfl)|(apply w2;apply rfl)|(apply w3;apply rfl;apply rfl)|apply w4|apply w5|apply w6|apply w7|(apply w8;apply rfl)|(apply w9;apply rfl)|apply wa|apply wd|apply we|apply wb|apply wc|apply wf|apply wg|apply wh|(apply wi;apply rfl)|apply wj|apply wk|apply wl|apply wm|apply wn|(apply s_load tk;apply rfl;apply rfl;(assumption);apply rfl;apply rfl)|(apply s_ept tk;apply rfl;apply rfl;apply rfl;apply rfl))
    refine rt1 rfl rfl (.refl _) hsub (hfalse ?_)
    have : ¬ 1 ≤ l[k].node := by simp at g2; omega
    rw [rising, hstep, decide_eq_false this]; simp
  have g2' : decide (1 ≤ l[k].node) = true := by simp at g2 ⊢; omega
  repeat (first|(apply d1;apply rfl;apply rfl;apply rfl;apply rfl)|(apply d2;apply rfl;apply rfl;apply rfl)|apply d3|(apply d5;apply rfl;apply rfl;apply rfl)|(apply d_ro;apply rfl;apply rfl;apply rfl;apply rfl;(assumption);apply rfl;apply rfl)|(apply d_ept;apply rfl;apply rfl;apply rfl;apply rfl;apply rfl;apply rfl))
  refine d_split rfl rfl rfl (fun g3 => ?_) (fun g3 => ?_)
  · have hk0 : 0 < k := by simpa using g3
    have hprev : prevAt l k = some l[k - 1].name := by simp only [prevAt, show ¬ k = 0 by omega, if_false]; rw [List.getElem?_eq_getElem (by omega)]; rfl
    have hpk := hn2 _ (List.getElem_mem (show k - 1 < l.length by omega))
    repeat (first|(apply d1;apply rfl;apply rfl;apply rfl;apply rfl)|(apply d2;apply rfl;apply rfl;apply rfl)|apply d3|(apply d5;apply rfl;apply rfl;apply rfl)|(apply d_ro;apply rfl;apply rfl;apply rfl;apply rfl;(assumption);apply rfl;apply rfl)|(apply d_ept;apply rfl;apply rfl;apply rfl;apply rfl;apply rfl;apply rfl))
    refine d_sub rfl rfl rfl rfl rfl (by omega) ?_
    repeat (first|(apply d1;apply rfl;apply rfl;apply rfl;apply rfl)|(apply d2;apply rfl;apply rfl;apply rfl)|apply d3|(apply d5;apply rfl;apply rfl;apply rfl)|(apply d_ro;apply rfl;apply rfl;apply rfl;apply rfl;(assumption);apply rfl;apply rfl)|(apply d_ept;apply rfl;apply rfl;apply rfl;apply rfl;apply rfl;apply rfl))
    refine d_index rfl rfl rfl rfl rfl rfl (by omega) (show (encNames l)[((k : Int) - 1).toNat]? = some [.s l[k - 1].name] by rw [show ((k : Int) - 1).toNat = k - 1 by omega]; simp [encNames, show k - 1 < l.length by omega]) rfl ?_
    repeat (first|(apply d1;apply rfl;apply rfl;apply rfl;apply rfl)|(apply d2;apply rfl;apply rfl;apply rfl)|apply d3|(apply d5;apply rfl;apply rfl;apply rfl)|(apply d_ro;apply rfl;apply rfl;apply rfl;apply rfl;(assumption);apply rfl;apply rfl)|(apply d_ept;apply rfl;apply rfl;apply rfl;apply rfl;apply rfl;apply rfl))
    refine d_index rfl rfl rfl rfl rfl rfl (by omega) (names_get l k c') rfl ?_
    repeat (first|(apply d1;apply rfl;apply rfl;apply rfl;apply rfl)|(apply d2;apply rfl;apply rfl;apply rfl)|apply d3|(apply d5;apply rfl;apply rfl;apply rfl)|(apply d_ro;apply rfl;apply rfl;apply rfl;apply rfl;(assumption);apply rfl;apply rfl)|(apply d_ept;apply rfl;apply rfl;apply rfl;apply rfl;apply rfl;apply rfl))
    refine d4 rfl ?_
    refine w2 rfl ?_
    refine s_call rfl rfl fk75 ?_
    refine less_c (by omega) ?_
    refine w4 ?_
    repeat (first|(apply d1;apply rfl;apply rfl;apply rfl;apply rfl)|(apply d2;apply rfl;apply rfl;apply rfl)|apply d3|(apply d5;apply rfl;apply rfl;apply rfl)|(apply d_ro;apply rfl;apply rfl;apply rfl;apply rfl;(assumption);apply rfl;apply rfl)|(apply d_ept;apply rfl;apply rfl;apply rfl;apply rfl;apply rfl;apply rfl))
    refine prot_done ?_
    repeat (first|(apply w1;apply rfl;apply rfl)|(apply w2;apply rfl)|(apply w3;apply rfl;apply rfl)|apply w4|apply w5|apply w6|apply w7|(apply w8;apply rfl)|(apply w9;apply rfl)|apply wa|apply wd|apply we|apply wb|apply wc|apply wf|apply wg|apply wh|(apply wi;apply rfl)|apply wj|apply wk|apply wl|apply wm|apply wn|(apply s_load tk;apply rfl;apply rfl;(assumption);apply rfl;apply rfl)|(apply s_ept tk;apply rfl;apply rfl;apply rfl;apply rfl))
    refine aw_cond rfl (fun g4 => ?_) (fun g4 => ?_)
    · repeat (first|(apply w1;apply rfl;apply rfl)|(apply w2;apply rfl)|(apply w3;apply rfl;apply rfl)|apply w4|apply w5|apply w6|apply w7|(apply w8;apply rfl)|(apply w9;apply rfl)|apply wa|apply wd|apply we|apply wb|apply wc|apply wf|apply wg|apply wh|(apply wi;apply rfl)|apply wj|apply wk|apply wl|apply wm|apply wn|(apply s_load tk;apply rfl;apply rfl;(assumption);apply rfl;apply rfl)|(apply s_ept tk;apply rfl;apply rfl;apply rfl;apply rfl))
      refine rt1 rfl rfl (.refl _) hsub (hfalse ?_)
      have g5 : Op.bytesLess l[k - 1].name.toList l[k].name.toList = false := by simpa using g4
      rw [rising, hstep, hprev]; simp [g5]
    · repeat (first|(apply w1;apply rfl;apply rfl)|(apply w2;apply rfl)|(apply w3;apply rfl;apply rfl)|apply w4|apply w5|apply w6|apply w7|(apply w8;apply rfl)|(apply w9;apply rfl)|apply wa|apply wd|apply we|apply wb|apply wc|apply wf|apply wg|apply wh|(apply wi;apply rfl)|apply wj|apply wk|apply wl|apply wm|apply wn|(apply s_load tk;apply rfl;apply rfl;(assumption);apply rfl;apply rfl)|(apply s_ept tk;apply rfl;apply rfl;apply rfl;apply rfl))
      refine s_add rfl rfl rfl (by omega) ?_
      repeat (first|(apply w1;apply rfl;apply rfl)|(apply w2;apply rfl)|(apply w3;apply rfl;apply rfl)|apply w4|apply w5|apply w6|apply w7|(apply w8;apply rfl)|(apply w9;apply rfl)|apply wa|apply wd|apply we|apply wb|apply wc|apply wf|apply wg|apply wh|(apply wi;apply rfl)|apply wj|apply wk|apply wl|apply wm|apply wn|(apply s_load tk;apply rfl;apply rfl;(assumption);apply rfl;apply rfl)|(apply s_ept tk;apply rfl;apply rfl;apply rfl;apply rfl))
      refine ⟨k + 1, ⟨by omega, ?_⟩, by omega, Fr.sub_cons rfl (Fr.sub_cons rfl (Fr.sub_nil _)), AHeap.sub_refl _⟩
      have g5 : Op.bytesLess l[k - 1].name.toList l[k].name.toList = true := by simpa using g4
      rw [hstep, hprev, hnext, g1', g2']; simp only [g5, Bool.and_true, Bool.true_and]
  · have hk0 : k = 0 := by simpa using g3
    repeat (first|(apply d1;apply rfl;apply rfl;apply rfl;apply rfl)|(apply d2;apply rfl;apply rfl;apply rfl)|apply d3|(apply d5;apply rfl;apply rfl;apply rfl)|(apply d_ro;apply rfl;apply rfl;apply rfl;apply rfl;(assumption);apply rfl;apply rfl)|(apply d_ept;apply rfl;apply rfl;apply rfl;apply rfl;apply rfl;apply rfl))
    refine prot_done ?_
    repeat (first|(apply w1;apply rfl;apply rfl)|(apply w2;apply rfl)|(apply w3;apply rfl;apply rfl)|apply w4|apply w5|apply w6|apply w7|(apply w8;apply rfl)|(apply w9;apply rfl)|apply wa|apply wd|apply we|apply wb|apply wc|apply wf|apply wg|apply wh|(apply wi;apply rfl)|apply wj|apply wk|apply wl|apply wm|apply wn|(apply s_load tk;apply rfl;apply rfl;(assumption);apply rfl;apply rfl)|(apply s_ept tk;apply rfl;apply rfl;apply rfl;apply rfl))
    refine s_add rfl rfl rfl (by omega) ?_
    repeat (first|(apply w1;apply rfl;apply rfl)|(apply w2;apply rfl)|(apply w3;apply rfl;apply rfl)|apply w4|apply w5|apply w6|apply w7|(apply w8;apply rfl)|(apply w9;apply rfl)|apply wa|apply wd|apply we|apply wb|apply wc|apply wf|apply wg|apply wh|(apply wi;apply rfl)|apply wj|apply wk|apply wl|apply wm|apply wn|(apply s_load tk;apply rfl;apply rfl;(assumption);apply rfl;apply rfl)|(apply s_ept tk;apply rfl;apply rfl;apply rfl;apply rfl))
    refine ⟨k + 1, ⟨by omega, ?_⟩, by omega, Fr.sub_cons rfl (Fr.sub_cons rfl (Fr.sub_nil _)), AHeap.sub_refl _⟩
    rw [hstep, hnext, g1', g2', prevAt, if_pos hk0]; simp only [Bool.and_true, Bool.true_and]
end Abs
end Go.Proofs.Ytmokoofibnoojaa
