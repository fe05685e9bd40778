import Derived.Test.YtmokoofibnoojaaP0
import Derived.Test.YtmokoofibnoojaaU0
import Derived.Test.YtmokoofibnoojaaA16
set_option linter.unusedVariables false
namespace Go.Proofs.Ytmokoofibnoojaa
namespace Abs
open Go.Sort

/-! ### slices.Sort of a row of strings -/
def sortB (ss : List ByteArray) : List ByteArray := ((ss.map fun s => s.data.toList).mergeSort fun x y => decide (x ≤ y)).map fun l => ⟨l.toArray⟩
theorem sortB_len (ss : List ByteArray) : (sortB ss).length = ss.length := by simp [sortB, List.length_mergeSort]
theorem heap_sorted (w : World) (n b : Nat) (d : Array (List UInt8)) (os : Array Obj) {k : Nat} (hk : k < w.heap.size) (hne : k ≠ b) : (grow (putRow encStr (Sort.ahead w n) b 0 d) os).heap[k]? = w.heap[k]? := by
  have h1 : k < (putRow encStr (Sort.ahead w n) b 0 d).heap.size := by simp [putRow, mapBlock, Sort.ahead, hk]
  rw [heap_grow_old _ _ h1]
  simp only [putRow, mapBlock, Sort.ahead, Array.getElem?_modify]
  rw [if_neg (fun e => hne e.symm)]
theorem heap_sorted_b (w : World) (n b : Nat) (d : Array (List UInt8)) (os : Array Obj) {c : Array Value} {el : TypeId} {fr : Nat × Nat} (hb : w.heap[b]? = some (.cells c el fr)) : (grow (putRow encStr (Sort.ahead w n) b 0 d) os).heap[b]? = some (.cells (putCells encStr 0 d c) el fr) := by
  have hk := (Array.getElem?_eq_some_iff.1 hb).1
  have h1 : b < (putRow encStr (Sort.ahead w n) b 0 d).heap.size := by simp [putRow, mapBlock, Sort.ahead, hk]
  rw [heap_grow_old _ _ h1]
  simp only [putRow, mapBlock, Sort.ahead, Array.getElem?_modify, hb, if_true, Option.map_some, onCells]
theorem sort_c {ss : List ByteArray} {b cap : Nat} {cs : List AVal} {H : AHeap} {K : AVal → AHeap → Prop} (hH : H b = some (.cells cs)) (hcs : cs.take ss.length = ss.map .s) (hcap : ss.length ≤ cs.length) (hsz : ss.length < 4611686018427387904)
    (hK : K (.tup []) (H.put b (.cells ((sortB ss).map .s ++ cs.drop ss.length)))) : ACalls Try.prog 74 [.row b 0 ss.length cap] H K := fun g w cargs hi hl hv => by
  obtain ⟨hbase, ⟨hlim, hpr⟩, c, el, hb, hcl, hcv⟩ := hi.obj b _ hH
  have hlt := (Array.getElem?_eq_some_iff.1 hb).1
  have ha : cargs = #[.slice (some ⟨b, 0, none⟩) (ss.map fun s => s.data.toList).length cap] := by
    apply Array.ext
    · simpa using hl.symm
    · intro j h1 h2
      have hj : j = 0 := by simp at h2; exact h2
      subst hj
      have := hv 0 (by simp) h1
      simp only [List.getElem_cons_zero] at this
      generalize cargs[0] = cv at this
      cases this
      simp
  subst ha
  have hget : ∀ j (h : j < ss.length), c[j]? = some (.string ss[j]) := fun j h => by
    have hjc : j < cs.length := by omega
    have h1 := hcv j hjc (by omega)
    have h2 : cs[j] = .s ss[j] := by
      have h3 : (cs.take ss.length)[j]? = (ss.map AVal.s)[j]? := by rw [hcs]
      rw [List.getElem?_take, if_pos h, List.getElem?_eq_getElem hjc, List.getElem?_map, List.getElem?_eq_getElem h] at h3
      exact Option.some.inj h3
    rw [h2] at h1
    rw [Array.getElem?_eq_getElem (by omega)]
    generalize c[j] = cv at h1
    cases h1; rfl
  have hHolds : Holds encStr w b 0 (ss.map fun s => s.data.toList).toArray := fun j hj => by
    have hj' : j < ss.length := by simpa using hj
    constructor
    · rw [cell_of_row w b (0 + j) c el (0, 0) hb, Nat.zero_add, hget j hj']
      simp [encStr, hj']
    · simp [World.frozen?, hb]
  have hsz' : (ss.map fun s => s.data.toList).length < 4611686018427387904 := by rw [List.length_map]; exact hsz
  have hcall := Try.slices_Sort_string b 0 cap (ss.map fun s => s.data.toList) w hHolds hlt hsz'
  refine hcall.mono ?_
  rintro e w' ⟨he, n, os, hw'⟩
  generalize hd : ((ss.map fun s => s.data.toList).mergeSort fun x y => decide (x ≤ y)) = d at hw'
  have hdl : d.length = ss.length := by rw [← hd, List.length_mergeSort, List.length_map]
  have hsort : sortB ss = d.map fun l => ⟨l.toArray⟩ := by unfold sortB; rw [hd]
  have hold : ∀ k, k < w.heap.size → k ≠ b → w'.heap[k]? = w.heap[k]? := fun k h1 h2 => by rw [hw']; exact heap_sorted w n b _ os h1 h2
  have hnew : w'.heap[b]? = some (.cells (putCells encStr 0 d.toArray c) el (0, 0)) := by rw [hw']; exact heap_sorted_b w n b _ os hb
  have hsize : w.heap.size ≤ w'.heap.size := by rw [hw', size_grow]; simp [putRow, mapBlock, Sort.ahead]
  have hpc : (putCells encStr 0 d.toArray c).size = c.size := by simp [putCells]
  have hext : Ext g w g w' := ⟨rfl, by rw [hw']; rfl, by rw [hw']; rfl, by rw [hw']; rfl, hsize, fun k hk => hold k (by have := hi.base_le; omega) (by omega), fun _ => Nat.le_refl _,
    fun k o ho => by
      have hkb : k ≠ b := fun e => by rw [e, hlim] at ho; omega
      have hks : k < w.heap.size := by
        rcases Nat.lt_or_ge k w.heap.size with h | h
        · exact h
        · rw [(hi.fresh k h).1] at ho; omega
      unfold World.cell?
      simp only [hold k hks hkb],
    fun k hk => by
      unfold World.shape?
      by_cases e : k = b
      · subst e; rw [hnew, hb]; simp [hpc]
      · rw [hold k hk e], rfl, fun k hk => by
      refine hold k ?_ (fun e => hpr (e ▸ hk))
      rcases Nat.lt_or_ge k w.heap.size with h | h
      · exact h
      · exact absurd hk (hi.fresh k h).2⟩
  have hinv : Inv g w' (H.put b (.cells ((sortB ss).map .s ++ cs.drop ss.length))) := ⟨Nat.le_trans hi.base_le hsize, fun k hk => hi.fresh k (by omega), fun k o hko => by
    by_cases ekb : k = b
    · subst ekb
      rw [put_same] at hko
      cases hko
      refine ⟨hbase, ⟨hlim, hpr⟩, putCells encStr 0 d.toArray c, el, hnew, ?_, fun j h1 h2 => ?_⟩
      · rw [hpc, ← hcl, List.length_append, List.length_map, sortB_len, List.length_drop]; omega
      · have hj : j < c.size := by rw [hpc] at h2; exact h2
        by_cases hjs : j < ss.length
        · have e1 : ((sortB ss).map AVal.s ++ cs.drop ss.length)[j] = .s ⟨(d[j]'(by omega)).toArray⟩ := by
            rw [List.getElem_append_left (by rw [List.length_map, sortB_len]; exact hjs)]
            simp [hsort]
          have e2 : (putCells encStr 0 d.toArray c)[j] = .string ⟨(d[j]'(by omega)).toArray⟩ := by
            have hjd : j < d.length := by omega
            simp [putCells, hjd, encStr]
          rw [e1, e2]
          exact .sc trivial
        · have e1 : ((sortB ss).map AVal.s ++ cs.drop ss.length)[j] = cs[j]'(by omega) := by
            rw [List.getElem_append_right (by rw [List.length_map, sortB_len]; omega)]
            simp only [List.length_map, sortB_len, List.getElem_drop]
            congr 1; omega
          have e2 : (putCells encStr 0 d.toArray c)[j] = c[j] := by
            have hjd : ¬ j < d.length := by omega
            simp [putCells, hjd]
          rw [e1, e2]
          exact (hcv j (by omega) hj).mono hext
    · rw [put_ne ekb] at hko
      obtain ⟨h1, h2⟩ := hi.obj k o hko
      exact ⟨h1, h2.at hext (hold k h2.lt ekb)⟩⟩
  exact ⟨.tuple #[], g, .tup [], _, he, hext, hinv, .tup rfl (fun j h => absurd h (Nat.not_lt_zero _)), hK⟩
theorem sortnil_c {o : Own} {H : AHeap} {K : AVal → AHeap → Prop} (hK : K (.tup []) H) : ACalls Try.prog 74 [.sl [] o] H K := fun g w cargs hi hl hv => by
  obtain ⟨cv, rfl⟩ : ∃ cv, cargs = #[cv] := by
    have h1 : cargs.size = 1 := by simpa using hl.symm
    exact ⟨cargs[0], by
      apply Array.ext
      · simpa using h1
      · intro j h2 h3
        have : j = 0 := by simp at h3; exact h3
        subst this; simp⟩
  have h0 : VR g w (.sl [] o) cv := hv 0 (by simp) (by simp)
  have ⟨p, cap, he⟩ : ∃ p cap, cv = .slice p 0 cap := by
    cases h0 with
    | nil => exact ⟨_, _, rfl⟩
    | nil' => exact ⟨_, _, rfl⟩
    | zero => exact ⟨_, _, rfl⟩
    | zero' => exact ⟨_, _, rfl⟩
    | sl => exact ⟨_, _, rfl⟩
  subst he
  refine (Try.slices_Sort_string_none p cap w).mono ?_
  rintro e w' ⟨he, hw⟩
  subst hw
  exact ⟨.tuple #[], g, .tup [], _, he, Ext.refl _ _, hi, .tup rfl (fun j h => absurd h (Nat.not_lt_zero _)), hK⟩
end Abs
end Go.Proofs.Ytmokoofibnoojaa
