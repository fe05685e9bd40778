import Derived.Test.YtbldnaflffmddaaL1
import Derived.Test.YtbldnaflffmddaaT1
set_option linter.unusedVariables false
namespace Go.Proofs.Ytbldnaflffmddaa
namespace Abs
set_option maxRecDepth 10000
attribute [local irreducible] AOps AW AP ACalls thenQ inBlk noGoto

/-! ### play: acts on a table -/
theorem play_c {t : Nat} {T : Tab} (hw : T.wf) {l : List Ac} {o : Own} {H : AHeap} (hT : H t = some (.cells (encTab T))) {K : AVal → AHeap → Prop} (hl : l.length ≤ 40) (hf : ∀ a ∈ l, a.n.few)
    (hK : ∀ T' : Tab, T'.wf → T'.room = T.room → K (.tup []) (H.put t (.cells (encTab T')))) : ACalls Try.prog 30 [.ptr t 0, .sl (l.map encAc) o] H K := by
  refine acalls_body Try.func30 rfl rfl rfl ?_
  have hll : (l.map encAc).length = l.length := by simp
  repeat (first|(apply w1;apply rfl;apply rfl)|(apply w2;apply rfl)|(apply w3;apply rfl;apply rfl)|apply w4|apply w5|apply w6|apply w7|(apply w8;apply rfl)|(apply w9;apply rfl)|apply wa|apply wd|apply we|apply wb|apply wc|apply wf|apply wg|apply wh|(apply wi;apply rfl)|apply wj|apply wk|apply wl|apply wm|apply wn)
  refine aw_loop (fun s : Nat × Tab => s.1 ≤ l.length ∧ s.2.wf ∧ s.2.room = T.room) (fun s => [(0, .ptr t 0), (1, .sl (l.map encAc) o), (4, .i s.1)]) (fun s => H.put t (.cells (encTab s.2))) (fun s => l.length - s.1) (0, T) ⟨Nat.zero_le _, hw, rfl⟩
    (Fr.sub_cons rfl (Fr.sub_cons rfl (Fr.sub_cons rfl (Fr.sub_nil _)))) (by rw [put_id hT]; exact AHeap.sub_refl _) ?_
  rintro ⟨k, S⟩ ⟨hk, hS, hr⟩
  simp only at hk hS hr
  have hfin : ∀ {F' : Fr} {H' : AHeap} (S' : Tab), S'.wf → S'.room = T.room → k < l.length → Fr.sub [(0, .ptr t 0), (1, .sl (l.map encAc) o), (4, .i ((k + 1 : Nat) : Int))] F' → (H.put t (.cells (encTab S'))).sub H' →
      ∃ s' : Nat × Tab, (s'.1 ≤ l.length ∧ s'.2.wf ∧ s'.2.room = T.room) ∧ l.length - s'.1 < l.length - k ∧ Fr.sub [(0, .ptr t 0), (1, .sl (l.map encAc) o), (4, .i s'.1)] F' ∧ (H.put t (.cells (encTab s'.2))).sub H' :=
    fun S' h1 h2 h3 h4 h5 => ⟨(k + 1, S'), ⟨h3, h1, h2⟩, by simp only; omega, h4, h5⟩
  repeat (first|(apply w1;apply rfl;apply rfl)|(apply w2;apply rfl)|(apply w3;apply rfl;apply rfl)|apply w4|apply w5|apply w6|apply w7|(apply w8;apply rfl)|(apply w9;apply rfl)|apply wa|apply wd|apply we|apply wb|apply wc|apply wf|apply wg|apply wh|(apply wi;apply rfl)|apply wj|apply wk|apply wl|apply wm|apply wn)
  refine aw_cond rfl (fun c => ?_) (fun c => ?_)
  case refine_2 =>
    repeat (first|(apply w1;apply rfl;apply rfl)|(apply w2;apply rfl)|(apply w3;apply rfl;apply rfl)|apply w4|apply w5|apply w6|apply w7|(apply w8;apply rfl)|(apply w9;apply rfl)|apply wa|apply wd|apply we|apply wb|apply wc|apply wf|apply wg|apply wh|(apply wi;apply rfl)|apply wj|apply wk|apply wl|apply wm|apply wn)
    exact rt0n rfl (AHeap.sub_refl _) (hK S hS hr)
  have c' : k < l.length := by simpa using c
  have hget : (l.map encAc)[(k : Int).toNat]? = some (encAc l[k]) := by simp [c']
  have hfk : l[k].n.few := hf _ (List.getElem_mem c')
  generalize l[k] = a at hget hfk
  repeat (first|(apply w1;apply rfl;apply rfl)|(apply w2;apply rfl)|(apply w3;apply rfl;apply rfl)|apply w4|apply w5|apply w6|apply w7|(apply w8;apply rfl)|(apply w9;apply rfl)|apply wa|apply wd|apply we|apply wb|apply wc|apply wf|apply wg|apply wh|(apply wi;apply rfl)|apply wj|apply wk|apply wl|apply wm|apply wn)
  refine s_index tk rfl rfl rfl rfl (by omega) hget rfl ?_
  repeat (first|(apply w1;apply rfl;apply rfl)|(apply w2;apply rfl)|(apply w3;apply rfl;apply rfl)|apply w4|apply w5|apply w6|apply w7|(apply w8;apply rfl)|(apply w9;apply rfl)|apply wa|apply wd|apply we|apply wb|apply wc|apply wf|apply wg|apply wh|(apply wi;apply rfl)|apply wj|apply wk|apply wl|apply wm|apply wn|(apply s_load tk;apply rfl;apply rfl;(assumption);apply rfl;apply rfl)|(apply s_ept tk;apply rfl;apply rfl;apply rfl;apply rfl))
  refine aw_cond rfl (fun d => ?_) (fun d => ?_)
  · repeat (first|(apply w1;apply rfl;apply rfl)|(apply w2;apply rfl)|(apply w3;apply rfl;apply rfl)|apply w4|apply w5|apply w6|apply w7|(apply w8;apply rfl)|(apply w9;apply rfl)|apply wa|apply wd|apply we|apply wb|apply wc|apply wf|apply wg|apply wh|(apply wi;apply rfl)|apply wj|apply wk|apply wl|apply wm|apply wn)
    refine aw_plan mixed (.take 0 (.take 1 (.take 2 (.take 3 (.take 4 (.take 5 (.take 6 (.take 7 (.take 8 (.take 9 (.take 10 (.one 11 .done)))))))))))) (by kernel_rfl) ?_
    repeat (first|(apply d1;apply rfl;apply rfl;apply rfl;apply rfl)|(apply d2;apply rfl;apply rfl;apply rfl)|apply d3|(apply d5;apply rfl;apply rfl;apply rfl)|(apply d_ro;apply rfl;apply rfl;apply rfl;apply rfl;(assumption);apply rfl;apply rfl)|(apply d_ept;apply rfl;apply rfl;apply rfl;apply rfl;apply rfl;apply rfl))
    refine d_index rfl rfl rfl rfl rfl rfl (by omega) hget rfl ?_
    repeat (first|(apply d1;apply rfl;apply rfl;apply rfl;apply rfl)|(apply d2;apply rfl;apply rfl;apply rfl)|apply d3|(apply d5;apply rfl;apply rfl;apply rfl)|(apply d_ro;apply rfl;apply rfl;apply rfl;apply rfl;(assumption);apply rfl;apply rfl)|(apply d_ept;apply rfl;apply rfl;apply rfl;apply rfl;apply rfl;apply rfl))
    refine d_index rfl rfl rfl rfl rfl rfl (by omega) hget rfl ?_
    repeat (first|(apply d1;apply rfl;apply rfl;apply rfl;apply rfl)|(apply d2;apply rfl;apply rfl;apply rfl)|apply d3|(apply d5;apply rfl;apply rfl;apply rfl)|(apply d_ro;apply rfl;apply rfl;apply rfl;apply rfl;(assumption);apply rfl;apply rfl)|(apply d_ept;apply rfl;apply rfl;apply rfl;apply rfl;apply rfl;apply rfl))
    refine d_epta (ds := encNode a.n) rfl rfl rfl rfl rfl (Nat.le_refl 9) rfl ?_
    repeat (first|(apply d1;apply rfl;apply rfl;apply rfl;apply rfl)|(apply d2;apply rfl;apply rfl;apply rfl)|apply d3|(apply d5;apply rfl;apply rfl;apply rfl)|(apply d_ro;apply rfl;apply rfl;apply rfl;apply rfl;(assumption);apply rfl;apply rfl)|(apply d_ept;apply rfl;apply rfl;apply rfl;apply rfl;apply rfl;apply rfl))
    refine d4 rfl ?_
    refine s_call rfl rfl fk49 ?_
    refine put_c hS hfk.small (put_same _ _ _) ?_
    have fin : ∀ S' : Tab, S'.wf → S'.room = T.room → True := fun _ _ _ => trivial
    split
    · split
      · rw [put_put]
        refine w4 ?_
        repeat (first|(apply d1;apply rfl;apply rfl;apply rfl;apply rfl)|(apply d2;apply rfl;apply rfl;apply rfl)|apply d3|(apply d5;apply rfl;apply rfl;apply rfl)|(apply d_ro;apply rfl;apply rfl;apply rfl;apply rfl;(assumption);apply rfl;apply rfl)|(apply d_ept;apply rfl;apply rfl;apply rfl;apply rfl;apply rfl;apply rfl))
        repeat (first|(apply w1;apply rfl;apply rfl)|(apply w2;apply rfl)|(apply w3;apply rfl;apply rfl)|apply w4|apply w5|apply w6|apply w7|(apply w8;apply rfl)|(apply w9;apply rfl)|apply wa|apply wd|apply we|apply wb|apply wc|apply wf|apply wg|apply wh|(apply wi;apply rfl)|apply wj|apply wk|apply wl|apply wm|apply wn)
        refine s_add rfl rfl rfl (by omega) ?_
        repeat (first|(apply w1;apply rfl;apply rfl)|(apply w2;apply rfl)|(apply w3;apply rfl;apply rfl)|apply w4|apply w5|apply w6|apply w7|(apply w8;apply rfl)|(apply w9;apply rfl)|apply wa|apply wd|apply we|apply wb|apply wc|apply wf|apply wg|apply wh|(apply wi;apply rfl)|apply wj|apply wk|apply wl|apply wm|apply wn)
        exact hfin _ (put_wf hS hfk.small _) hr c' (Fr.sub_cons rfl (Fr.sub_cons rfl (Fr.sub_cons rfl (Fr.sub_nil _)))) (AHeap.sub_refl _)
      · refine w4 ?_
        repeat (first|(apply d1;apply rfl;apply rfl;apply rfl;apply rfl)|(apply d2;apply rfl;apply rfl;apply rfl)|apply d3|(apply d5;apply rfl;apply rfl;apply rfl)|(apply d_ro;apply rfl;apply rfl;apply rfl;apply rfl;(assumption);apply rfl;apply rfl)|(apply d_ept;apply rfl;apply rfl;apply rfl;apply rfl;apply rfl;apply rfl))
        repeat (first|(apply w1;apply rfl;apply rfl)|(apply w2;apply rfl)|(apply w3;apply rfl;apply rfl)|apply w4|apply w5|apply w6|apply w7|(apply w8;apply rfl)|(apply w9;apply rfl)|apply wa|apply wd|apply we|apply wb|apply wc|apply wf|apply wg|apply wh|(apply wi;apply rfl)|apply wj|apply wk|apply wl|apply wm|apply wn)
        refine s_add rfl rfl rfl (by omega) ?_
        repeat (first|(apply w1;apply rfl;apply rfl)|(apply w2;apply rfl)|(apply w3;apply rfl;apply rfl)|apply w4|apply w5|apply w6|apply w7|(apply w8;apply rfl)|(apply w9;apply rfl)|apply wa|apply wd|apply we|apply wb|apply wc|apply wf|apply wg|apply wh|(apply wi;apply rfl)|apply wj|apply wk|apply wl|apply wm|apply wn)
        exact hfin _ hS hr c' (Fr.sub_cons rfl (Fr.sub_cons rfl (Fr.sub_cons rfl (Fr.sub_nil _)))) (AHeap.sub_refl _)
    · refine w4 ?_
      repeat (first|(apply d1;apply rfl;apply rfl;apply rfl;apply rfl)|(apply d2;apply rfl;apply rfl;apply rfl)|apply d3|(apply d5;apply rfl;apply rfl;apply rfl)|(apply d_ro;apply rfl;apply rfl;apply rfl;apply rfl;(assumption);apply rfl;apply rfl)|(apply d_ept;apply rfl;apply rfl;apply rfl;apply rfl;apply rfl;apply rfl))
      repeat (first|(apply w1;apply rfl;apply rfl)|(apply w2;apply rfl)|(apply w3;apply rfl;apply rfl)|apply w4|apply w5|apply w6|apply w7|(apply w8;apply rfl)|(apply w9;apply rfl)|apply wa|apply wd|apply we|apply wb|apply wc|apply wf|apply wg|apply wh|(apply wi;apply rfl)|apply wj|apply wk|apply wl|apply wm|apply wn)
      refine s_add rfl rfl rfl (by omega) ?_
      repeat (first|(apply w1;apply rfl;apply rfl)|(apply w2;apply rfl)|(apply w3;apply rfl;apply rfl)|apply w4|apply w5|apply w6|apply w7|(apply w8;apply rfl)|(apply w9;apply rfl)|apply wa|apply wd|apply we|apply wb|apply wc|apply wf|apply wg|apply wh|(apply wi;apply rfl)|apply wj|apply wk|apply wl|apply wm|apply wn)
      exact hfin _ hS hr c' (Fr.sub_cons rfl (Fr.sub_cons rfl (Fr.sub_cons rfl (Fr.sub_nil _)))) (AHeap.sub_refl _)
  · repeat (first|(apply w1;apply rfl;apply rfl)|(apply w2;apply rfl)|(apply w3;apply rfl;apply rfl)|apply w4|apply w5|apply w6|apply w7|(apply w8;apply rfl)|(apply w9;apply rfl)|apply wa|apply wd|apply we|apply wb|apply wc|apply wf|apply wg|apply wh|(apply wi;apply rfl)|apply wj|apply wk|apply wl|apply wm|apply wn)
    refine aw_cond rfl (fun d2 => ?_) (fun d2 => ?_)
    · repeat (first|(apply w1;apply rfl;apply rfl)|(apply w2;apply rfl)|(apply w3;apply rfl;apply rfl)|apply w4|apply w5|apply w6|apply w7|(apply w8;apply rfl)|(apply w9;apply rfl)|apply wa|apply wd|apply we|apply wb|apply wc|apply wf|apply wg|apply wh|(apply wi;apply rfl)|apply wj|apply wk|apply wl|apply wm|apply wn)
      refine s_index tk rfl rfl rfl rfl (by omega) hget rfl ?_
      repeat (first|(apply w1;apply rfl;apply rfl)|(apply w2;apply rfl)|(apply w3;apply rfl;apply rfl)|apply w4|apply w5|apply w6|apply w7|(apply w8;apply rfl)|(apply w9;apply rfl)|apply wa|apply wd|apply we|apply wb|apply wc|apply wf|apply wg|apply wh|(apply wi;apply rfl)|apply wj|apply wk|apply wl|apply wm|apply wn)
      refine s_epta (ds := encNode a.n) tk rfl rfl rfl (Nat.le_refl 9) rfl ?_
      repeat (first|(apply w1;apply rfl;apply rfl)|(apply w2;apply rfl)|(apply w3;apply rfl;apply rfl)|apply w4|apply w5|apply w6|apply w7|(apply w8;apply rfl)|(apply w9;apply rfl)|apply wa|apply wd|apply we|apply wb|apply wc|apply wf|apply wg|apply wh|(apply wi;apply rfl)|apply wj|apply wk|apply wl|apply wm|apply wn)
      refine s_call rfl rfl fk35 ?_
      refine add_c hS hfk.small (put_same _ _ _) (fun _ => ?_) (fun m hok hm hall hno => ?_) (fun _ _ => ?_)
      · repeat (first|(apply w1;apply rfl;apply rfl)|(apply w2;apply rfl)|(apply w3;apply rfl;apply rfl)|apply w4|apply w5|apply w6|apply w7|(apply w8;apply rfl)|(apply w9;apply rfl)|apply wa|apply wd|apply we|apply wb|apply wc|apply wf|apply wg|apply wh|(apply wi;apply rfl)|apply wj|apply wk|apply wl|apply wm|apply wn)
        refine s_add rfl rfl rfl (by omega) ?_
        repeat (first|(apply w1;apply rfl;apply rfl)|(apply w2;apply rfl)|(apply w3;apply rfl;apply rfl)|apply w4|apply w5|apply w6|apply w7|(apply w8;apply rfl)|(apply w9;apply rfl)|apply wa|apply wd|apply we|apply wb|apply wc|apply wf|apply wg|apply wh|(apply wi;apply rfl)|apply wj|apply wk|apply wl|apply wm|apply wn)
        exact hfin _ hS hr c' (Fr.sub_cons rfl (Fr.sub_cons rfl (Fr.sub_cons rfl (Fr.sub_nil _)))) (AHeap.sub_refl _)
      · rw [put_put]
        repeat (first|(apply w1;apply rfl;apply rfl)|(apply w2;apply rfl)|(apply w3;apply rfl;apply rfl)|apply w4|apply w5|apply w6|apply w7|(apply w8;apply rfl)|(apply w9;apply rfl)|apply wa|apply wd|apply we|apply wb|apply wc|apply wf|apply wg|apply wh|(apply wi;apply rfl)|apply wj|apply wk|apply wl|apply wm|apply wn)
        refine s_add rfl rfl rfl (by omega) ?_
        repeat (first|(apply w1;apply rfl;apply rfl)|(apply w2;apply rfl)|(apply w3;apply rfl;apply rfl)|apply w4|apply w5|apply w6|apply w7|(apply w8;apply rfl)|(apply w9;apply rfl)|apply wa|apply wd|apply we|apply wb|apply wc|apply wf|apply wg|apply wh|(apply wi;apply rfl)|apply wj|apply wk|apply wl|apply wm|apply wn)
        exact hfin _ (put_wf hS hfk.small _) hr c' (Fr.sub_cons rfl (Fr.sub_cons rfl (Fr.sub_cons rfl (Fr.sub_nil _)))) (AHeap.sub_refl _)
      · repeat (first|(apply w1;apply rfl;apply rfl)|(apply w2;apply rfl)|(apply w3;apply rfl;apply rfl)|apply w4|apply w5|apply w6|apply w7|(apply w8;apply rfl)|(apply w9;apply rfl)|apply wa|apply wd|apply we|apply wb|apply wc|apply wf|apply wg|apply wh|(apply wi;apply rfl)|apply wj|apply wk|apply wl|apply wm|apply wn)
        refine s_add rfl rfl rfl (by omega) ?_
        repeat (first|(apply w1;apply rfl;apply rfl)|(apply w2;apply rfl)|(apply w3;apply rfl;apply rfl)|apply w4|apply w5|apply w6|apply w7|(apply w8;apply rfl)|(apply w9;apply rfl)|apply wa|apply wd|apply we|apply wb|apply wc|apply wf|apply wg|apply wh|(apply wi;apply rfl)|apply wj|apply wk|apply wl|apply wm|apply wn)
        exact hfin _ hS hr c' (Fr.sub_cons rfl (Fr.sub_cons rfl (Fr.sub_cons rfl (Fr.sub_nil _)))) (AHeap.sub_refl _)
    · repeat (first|(apply w1;apply rfl;apply rfl)|(apply w2;apply rfl)|(apply w3;apply rfl;apply rfl)|apply w4|apply w5|apply w6|apply w7|(apply w8;apply rfl)|(apply w9;apply rfl)|apply wa|apply wd|apply we|apply wb|apply wc|apply wf|apply wg|apply wh|(apply wi;apply rfl)|apply wj|apply wk|apply wl|apply wm|apply wn)
      refine s_index tk rfl rfl rfl rfl (by omega) hget rfl ?_
      repeat (first|(apply w1;apply rfl;apply rfl)|(apply w2;apply rfl)|(apply w3;apply rfl;apply rfl)|apply w4|apply w5|apply w6|apply w7|(apply w8;apply rfl)|(apply w9;apply rfl)|apply wa|apply wd|apply we|apply wb|apply wc|apply wf|apply wg|apply wh|(apply wi;apply rfl)|apply wj|apply wk|apply wl|apply wm|apply wn|(apply s_load tk;apply rfl;apply rfl;(assumption);apply rfl;apply rfl)|(apply s_ept tk;apply rfl;apply rfl;apply rfl;apply rfl))
      refine s_call rfl rfl fk46 ?_
      refine drop_c hS (put_same _ _ _) ?_
      split
      · rw [put_put]
        repeat (first|(apply w1;apply rfl;apply rfl)|(apply w2;apply rfl)|(apply w3;apply rfl;apply rfl)|apply w4|apply w5|apply w6|apply w7|(apply w8;apply rfl)|(apply w9;apply rfl)|apply wa|apply wd|apply we|apply wb|apply wc|apply wf|apply wg|apply wh|(apply wi;apply rfl)|apply wj|apply wk|apply wl|apply wm|apply wn)
        refine s_add rfl rfl rfl (by omega) ?_
        repeat (first|(apply w1;apply rfl;apply rfl)|(apply w2;apply rfl)|(apply w3;apply rfl;apply rfl)|apply w4|apply w5|apply w6|apply w7|(apply w8;apply rfl)|(apply w9;apply rfl)|apply wa|apply wd|apply we|apply wb|apply wc|apply wf|apply wg|apply wh|(apply wi;apply rfl)|apply wj|apply wk|apply wl|apply wm|apply wn)
        exact hfin _ (put_wf hS Node.zero_small _) hr c' (Fr.sub_cons rfl (Fr.sub_cons rfl (Fr.sub_cons rfl (Fr.sub_nil _)))) (AHeap.sub_refl _)
      · repeat (first|(apply w1;apply rfl;apply rfl)|(apply w2;apply rfl)|(apply w3;apply rfl;apply rfl)|apply w4|apply w5|apply w6|apply w7|(apply w8;apply rfl)|(apply w9;apply rfl)|apply wa|apply wd|apply we|apply wb|apply wc|apply wf|apply wg|apply wh|(apply wi;apply rfl)|apply wj|apply wk|apply wl|apply wm|apply wn)
        refine s_add rfl rfl rfl (by omega) ?_
        repeat (first|(apply w1;apply rfl;apply rfl)|(apply w2;apply rfl)|(apply w3;apply rfl;apply rfl)|apply w4|apply w5|apply w6|apply w7|(apply w8;apply rfl)|(apply w9;apply rfl)|apply wa|apply wd|apply we|apply wb|apply wc|apply wf|apply wg|apply wh|(apply wi;apply rfl)|apply wj|apply wk|apply wl|apply wm|apply wn)
        exact hfin _ hS hr c' (Fr.sub_cons rfl (Fr.sub_cons rfl (Fr.sub_cons rfl (Fr.sub_nil _)))) (AHeap.sub_refl _)
end Abs
end Go.Proofs.Ytbldnaflffmddaa
