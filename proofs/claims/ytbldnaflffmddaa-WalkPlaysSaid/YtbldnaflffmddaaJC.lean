import Derived.Test.YtbldnaflffmddaaJB
import Derived.Test.YtbldnaflffmddaaP0
set_option linter.unusedVariables false
namespace Go.Proofs.Ytbldnaflffmddaa
namespace Abs
open Go.RowKit Go.Sort

/-! ### slices.Sorted of slices.Values of strings: a contract of our own kind -/
theorem strs_in {g : Ghost} {w : World} {l : List ByteArray} {o : Own} {sv : Value} (hv : VR g w (.sl (l.map fun s => [AVal.s s]) o) sv) : StrsIn w.heap.size w sv (l.map fun s => s.data.toList) := by
  generalize hx : (l.map fun s => [AVal.s s]) = xs at hv
  have hlx : xs.length = l.length := by rw [← hx, List.length_map]
  have nil : xs = [] → l = [] := fun e => List.length_eq_zero_iff.1 (by rw [← hlx, e]; rfl)
  have hnil : ∀ a, xs = [] → StrsIn w.heap.size w (.slice a 0 0) (l.map fun s => s.data.toList) := fun a e => .inl ⟨a, rfl, by rw [nil e]; rfl⟩
  cases hv with
  | nil => exact hnil _ rfl
  | nil' => exact hnil _ rfl
  | zero => exact hnil _ rfl
  | zero' => exact hnil _ rfl
  | @sl _ _ b o2 es cap cv h1 h2 h3 h4 h5 h6 h7 h8 =>
    by_cases hl0 : l = []
    · subst hl0
      have : xs = [] := by rw [← hx]; rfl
      subst this
      obtain ⟨el, n, hs, _⟩ := h5
      refine .inr ⟨b, o2, cap, rfl, ?_, fun j hj => by simp at hj⟩
      rcases Nat.lt_or_ge b w.heap.size with h' | h'
      · exact h'
      · simp [World.shape?, Array.getElem?_eq_none h'] at hs
    · have hes : es = 1 := by
        have hp : 0 < l.length := List.length_pos_iff.2 hl0
        have := h1 0 (by omega)
        rw [← this]
        subst hx
        simp
      subst hes
      obtain ⟨el, n, hs, _⟩ := h5
      refine .inr ⟨b, o2, cap, by rw [List.length_map, hlx], ?_, fun j hj => ?_⟩
      · rcases Nat.lt_or_ge b w.heap.size with h' | h'
        · exact h'
        · simp [World.shape?, Array.getElem?_eq_none h'] at hs
      · have hj' : j < l.length := by simpa using hj
        have hjx : j < xs.length := by omega
        have hj1 : 0 < xs[j].length := by rw [h1 j hjx]; exact Nat.one_pos
        have hc := h7 j hjx 0 hj1
        have hvr := h8 j hjx 0 hj1
        have hxj : xs[j][0] = .s l[j] := by subst hx; simp
        rw [hxj] at hvr
        rw [Nat.mul_one, Nat.add_zero] at hc
        rw [hc]
        generalize cv j 0 = u at hvr
        cases hvr
        rw [List.getElem?_map, List.getElem?_eq_getElem hj']
        rfl
theorem sorted_c {l : List ByteArray} {o : Own} {Bs : Nat} {H : AHeap} (hH : Rd H Bs [.sl (l.map fun s => [AVal.s s]) o]) (hl : l.length ≤ 1000000) {K : AVal → AHeap → Prop} (hK : K (.sl ((sortB l).map fun s => [AVal.s s]) .no) H) :
    ACalls Try.prog 37 [.clo 56 [] [.ptr Bs 0]] H K := fun g w cargs hi hcl hv => by
  have ha : cargs = #[.func (.func 56) #[] #[.pointer (some ⟨Bs, 0, none⟩)]] := by
    apply Array.ext
    · simpa using hcl.symm
    · intro j h1 h2
      have hj : j = 0 := by simp at h2; exact h2
      subst hj
      have := hv 0 (by simp) h1
      simp only [List.getElem_cons_zero] at this
      generalize cargs[0] = cv at this
      cases this with
      | @clo f fs cs fv cv h1 h2 h3 h4 =>
        have e1 : fv = #[] := Array.eq_empty_of_size_eq_zero (by simpa using h1.symm)
        have e2 : cv.size = 1 := by simpa using h2.symm
        subst e1
        have h5 := h4 0 (by simp) (by omega)
        have e3 : cv = #[cv[0]] := by
          apply Array.ext
          · simpa using e2
          · intro j h1 h2
            have hj : j = 0 := by simp at h2; exact h2
            subst hj; rfl
        simp only [List.getElem_cons_zero] at h5
        generalize cv[0] = u at h5 e3
        cases h5
        rw [e3]; rfl
  subst ha
  have hob : ∃ c el, w.heap[Bs]? = some (.cells c el (0, 0)) ∧ ∃ sv, c[0]? = some sv ∧ VR g w (.sl (l.map fun s => [AVal.s s]) o) sv := by
    rcases hH with hH | hH
    all_goals
      obtain ⟨hbase, ⟨hlim, hpr⟩, c, el, hb, hcl, hcv⟩ := hi.obj Bs _ hH
      have hc0 : 0 < c.size := by rw [← hcl]; exact Nat.one_pos
      exact ⟨c, el, hb, c[0], by rw [Array.getElem?_eq_getElem hc0], hcv 0 (by simp) hc0⟩
  obtain ⟨c, el, hb, sv, hsv, hvr⟩ := hob
  have hBs : Bs < w.heap.size := (Array.getElem?_eq_some_iff.1 hb).1
  have hcell : w.cell? ⟨Bs, 0, none⟩ = some sv := by rw [cell_of_row w Bs 0 c el _ hb]; exact hsv
  have hI := strs_in hvr
  have hlz : (l.map fun s => s.data.toList).length = l.length := List.length_map ..
  have hcall := callsIn_wide.1 (sorted_in 5 (Nat.le_refl _) Bs sv (l.map fun s => s.data.toList) (by rw [hlz]; omega) w hBs hcell hI)
  refine hcall.mono ?_
  rintro e w' ⟨v, he, hrow, hnil, hbl⟩
  have hext : Ext g w g w' := ⟨rfl, hbl.os, hbl.tape, hbl.output, hbl.size, fun k hk => hbl.block k (by have := hi.base_le; omega), fun _ => Nat.le_refl _, fun k o ho => by
    rcases Nat.lt_or_ge k w.heap.size with hk | hk
    · unfold World.cell?
      simp only [hbl.block k hk]
    · have := (hi.fresh k hk).1
      omega, fun k hk => by
    unfold World.shape?
    simp only [hbl.block k hk], rfl, fun k hk => hbl.block k (by
    rcases Nat.lt_or_ge k w.heap.size with h' | h'
    · exact h'
    · exact absurd hk (hi.fresh k h').2)⟩
  have hinv : Inv g w' H := ⟨by have := hi.base_le; have := hbl.size; omega, fun k hk => hi.fresh k (by have := hbl.size; omega), fun k p hp => ⟨(hi.obj k p hp).1, (hi.obj k p hp).2.at hext (hbl.block k (hi.lt hp))⟩⟩
  have hsl : (sortB l).length = l.length := sortB_len l
  rcases hrow.2 with ⟨rfl, hz⟩ | ⟨gb, cap, cur, rfl, hbase, hgb, r1, r2, r3, r4⟩
  · have hl0 : l = [] := List.length_eq_zero_iff.1 (by rw [← hlz]; exact hz)
    subst hl0
    rw [show sortB [] = [] from List.length_eq_zero_iff.1 (sortB_len [])] at hK
    exact ⟨_, g, _, H, he, hext, hinv, .nil', hK⟩
  · have hgl : gb < w'.heap.size := (Array.getElem?_eq_some_iff.1 hgb).1
    have hHn : H gb = none := by
      cases hx : H gb with
      | none => rfl
      | some p => have := hi.lt hx; omega
    have hlim0 : g.lim gb = 0 := (hi.fresh gb hbase).1
    have hes := ext_seal (g := g) (w := w') (b := gb) (e := 0 + (sortB l).length * 1) (by omega)
    refine ⟨_, g.fix gb (0 + (sortB l).length * 1), .sl ((sortB l).map fun s => [AVal.s s]) .no, H, he, hext.trans hes, inv_seal hinv (by omega) hgl hHn, ?_, hK⟩
    have hfl : (((sortB l).map fun s => [AVal.s s]).flatten) = (sortB l).map AVal.s := by
      generalize sortB l = m
      induction m with
      | nil => rfl
      | cons a m ih => simp [ih]
    have hvs : VRs (g.fix gb (0 + (sortB l).length * 1)) w' ((sortB l).map fun s => [AVal.s s]).flatten ((sortB l).map Value.string) := by
      rw [hfl]
      refine ⟨by simp, fun j h1 h2 => ?_⟩
      simp only [List.getElem_map]
      exact .sc trivial
    have hsrt : ((l.map fun s => s.data.toList).mergeSort fun x y => decide (x ≤ y)).map encStr = (sortB l).map Value.string := by
      unfold sortB
      rw [List.map_map]
      rfl
    have := VR.sl_mk (g := g.fix gb (0 + (sortB l).length * 1)) (w := w') (own := .no) (es := 1) (b := gb) (o := 0) (cap := cap) (xs := (sortB l).map fun s => [AVal.s s]) Nat.one_pos (fun x hx => by
      obtain ⟨e, _, rfl⟩ := List.mem_map.1 hx; rfl) hvs (fun j u hu => by
        rw [cell_of_row w' gb (0 + j) cur _ _ hgb, Nat.zero_add]
        rw [← hsrt] at hu
        have hj : j < (((l.map fun s => s.data.toList).mergeSort fun x y => decide (x ≤ y)).map encStr).length := (List.getElem?_eq_some_iff.1 hu).1
        have h4 : (cur.toList.take ((l.map fun s => s.data.toList).length * 1))[j]? = some u := by rw [r4]; exact hu
        rw [List.getElem?_take] at h4
        split at h4
        · rw [Array.getElem?_toList] at h4; exact h4
        · cases h4) (by rw [List.length_map]; exact imm_seal _ _ _) (by rw [List.length_map, hsl, ← hlz]; exact r1) (by rw [List.length_map, hsl]; unfold maxLen; omega)
      ⟨_, cur.size, by unfold World.shape?; rw [hgb], by omega⟩ trivial
    rw [List.length_map] at this
    rw [show (l.map fun s => s.data.toList).length = (sortB l).length by rw [hlz, hsl]]
    exact this
end Abs
end Go.Proofs.Ytbldnaflffmddaa
