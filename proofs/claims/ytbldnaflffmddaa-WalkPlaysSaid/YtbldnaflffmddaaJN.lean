import Derived.Test.YtbldnaflffmddaaJE
set_option linter.unusedVariables false
namespace Go.Proofs.Ytbldnaflffmddaa
namespace Abs
open Go.RowKit

/-! ### a map from ints to bools that are true -/
def encSet (ks : List Int) : List (Value × AVal) := ks.map fun k => (.int .i64 k, .b true)
theorem findNow_set (kind : TypeDesc) (hk : ∃ b, kind = .int b) (q : Int) : ∀ (l : List MapEntry) (ks : List Int) (i0 : Nat), l.length = ks.length → (∀ j (h : j < l.length) (h' : j < ks.length), l[j].key = .int .i64 ks[j] ∧ l[j].val = .bool true) →
    (q ∉ ks ∧ Instr.findNow kind (.int .i64 q) l i0 = some none) ∨ (q ∈ ks ∧ ∃ i, i0 ≤ i ∧ i - i0 < l.length ∧ Instr.findNow kind (.int .i64 q) l i0 = some (some (i, .bool true)) ∧ ∀ (h : i - i0 < ks.length), ks[i - i0] = q)
  | [], ks, i0, hl, _ => by
    have : ks = [] := List.length_eq_zero_iff.1 hl.symm
    subst this
    exact .inl ⟨List.not_mem_nil, rfl⟩
  | e :: l, [], i0, hl, _ => by simp at hl
  | e :: l, k :: ks, i0, hl, h => by
    obtain ⟨b, rfl⟩ := hk
    obtain ⟨h1, h2⟩ := h 0 (Nat.zero_lt_succ _) (Nat.zero_lt_succ _)
    simp only [List.getElem_cons_zero] at h1 h2
    have hn : Instr.sameNow (.int b) (.int .i64 q) e.key = some (q == k) := by rw [h1]; simp [Instr.sameNow]
    by_cases hq : q = k
    · refine .inr ⟨by rw [hq]; exact List.mem_cons_self, i0, Nat.le_refl _, by simp, ?_, fun _ => by simp [hq]⟩
      unfold Instr.findNow
      rw [hn, h2, hq]
      simp
    · have hb : (q == k) = false := by simpa using hq
      have hf : Instr.findNow (.int b) (.int .i64 q) (e :: l) i0 = Instr.findNow (.int b) (.int .i64 q) l (i0 + 1) := by
        rw [Instr.findNow, hn, hb]
      rw [hf]
      rcases findNow_set (.int b) ⟨b, rfl⟩ q l ks (i0 + 1) (by simpa using hl) (fun j a c => by
        have := h (j + 1) (by simpa using a) (by simpa using c)
        simpa using this) with ⟨g1, g2⟩ | ⟨g1, i, g2, g3, g4, g5⟩
      · exact .inl ⟨fun hm => by
          rcases List.mem_cons.1 hm with hm | hm
          · exact hq hm
          · exact g1 hm, g2⟩
      · refine .inr ⟨List.mem_cons_of_mem _ g1, i, by omega, by simp only [List.length_cons]; omega, g4, fun hlt => ?_⟩
        have e1 : i - i0 = (i - (i0 + 1)) + 1 := by omega
        have := g5 (by simp only [List.length_cons] at hlt; omega)
        simp only [e1, List.getElem_cons_succ]
        exact this
theorem run_checkKey {P : Program} {key : TypeId} {bb : IntKind} (hk : P.underlying key = some (.int bb)) (e : Bool) (n : Nat) (j : IntKind) (q : Int) (w : World) : (Instr.checkKey e (n + 1) key (.int j q)).run P w = .ok () w := by
  rw [Instr.checkKey]
  simp [Sem.run_bind, run_underlying hk]
theorem run_findKey {P : Program} {key : TypeId} {bb : IntKind} (hk : P.underlying key = some (.int bb)) {q : Int} {l : List MapEntry} {r : Option (Nat × Value)} (h : Instr.findNow (.int bb) (.int .i64 q) l 0 = some r) (w : World) : (Instr.findKey key (.int .i64 q) l).run P w = .ok r w := by
  simp [Instr.findKey, Sem.run_bind, run_underlying hk, h]
theorem run_getObjW {P : Program} {b clock : Nat} {me : Array MapEntry} {w : World} (hb : w.heap[b]? = some (.map me clock)) : (getObj b).run P w = .ok (.map me clock) w := by
  simp [getObj, Sem.run, hb]
theorem run_lookupS {P : Program} {t key elem : TypeId} {bb : IntKind} (hu : P.underlying t = some (.map key elem)) (hk : P.underlying key = some (.int bb)) (hz : ∀ w, (zeroValue elem).run P w = .ok (.bool false) w) {w : World} {b clock : Nat} {me : Array MapEntry} {ks : List Int} {q : Int}
    (hb : w.heap[b]? = some (.map me clock)) (hl : me.toList.length = ks.length) (h : ∀ j (h : j < me.toList.length) (h' : j < ks.length), me.toList[j].key = .int .i64 ks[j] ∧ me.toList[j].val = .bool true) :
    (Instr.lookup t (.map (some b)) (.int .i64 q) false).run P w = .ok (.bool (ks.contains q)) w := by
  have hc := run_checkKey hk me.isEmpty 9999 .i64 q w
  rcases findNow_set (.int bb) ⟨bb, rfl⟩ q me.toList ks 0 hl h with ⟨g1, g2⟩ | ⟨g1, i, -, -, g4, -⟩
  · have hf := run_findKey hk g2 w
    have hq : ks.contains q = false := by simpa using g1
    rw [hq]
    simp [Instr.lookup, Sem.run_bind, run_underlying hu, run_getObjW hb, hc, hf, hz]
  · have hf := run_findKey hk g4 w
    have hq : ks.contains q = true := by simpa using g1
    rw [hq]
    simp [Instr.lookup, Sem.run_bind, run_underlying hu, run_getObjW hb, hc, hf]
theorem run_setObjW {P : Program} {b clock : Nat} {me : Array MapEntry} {w : World} (hb : w.heap[b]? = some (.map me clock)) (me' : Array MapEntry) (c' : Nat) : (setObj b (.map me' c')).run P w = .ok () (World.withObj w b (.map me' c')) := by
  simp [setObj, Sem.run, hb, World.withObj]
theorem run_staysW {P : Program} (q : Int) (w : World) : (Instr.keyThatStays (.int .i64 q) (.int .i64 q)).run P w = .ok (.int .i64 q) w := by
  simp [Instr.keyThatStays, Instr.sameBits]
def setIn (ks : List Int) (q : Int) : List Int := if ks.contains q then ks else ks ++ [q]
theorem run_updateS {P : Program} {t key elem : TypeId} {bb : IntKind} (hu : P.underlying t = some (.map key elem)) (hk : P.underlying key = some (.int bb)) {w : World} {b clock : Nat} {me : Array MapEntry} {ks : List Int} {q : Int}
    (hb : w.heap[b]? = some (.map me clock)) (hl : me.toList.length = ks.length) (h : ∀ j (h : j < me.toList.length) (h' : j < ks.length), me.toList[j].key = .int .i64 ks[j] ∧ me.toList[j].val = .bool true) :
    ∃ (me' : Array MapEntry) (c' : Nat), (Instr.mapUpdate t (.map (some b)) (.int .i64 q) (.bool true)).run P w = .ok () (World.withObj w b (.map me' c')) ∧ me'.toList.length = (setIn ks q).length ∧
      ∀ j (h : j < me'.toList.length) (h' : j < (setIn ks q).length), me'.toList[j].key = .int .i64 (setIn ks q)[j] ∧ me'.toList[j].val = .bool true := by
  have hc := run_checkKey hk false 9999 .i64 q w
  rcases findNow_set (.int bb) ⟨bb, rfl⟩ q me.toList ks 0 hl h with ⟨g1, g2⟩ | ⟨g1, i, -, g3, g4, g5⟩
  · have hf := run_findKey hk g2 w
    have hq : ks.contains q = false := by simpa using g1
    have hs : setIn ks q = ks ++ [q] := by unfold setIn; rw [hq]; rfl
    refine ⟨me.push { key := .int .i64 q, val := .bool true, born := clock }, clock + 1, ?_, ?_, ?_⟩
    · simp [Instr.mapUpdate, Sem.run_bind, run_underlying hu, run_getObjW hb, hc, hf, run_setObjW hb]
    · rw [hs]; simp at hl ⊢; exact hl
    · rw [hs]
      intro j hj hj'
      have hj2 : j < me.toList.length + 1 := by simpa using hj
      by_cases e : j = me.toList.length
      · subst e
        have h3 : me.toList.length = ks.length := hl
        constructor
        · simp [h3]
        · simp
      · have hj3 : j < me.toList.length := by omega
        have hj4 : j < ks.length := by omega
        have := h j hj3 hj4
        constructor
        · rw [List.getElem_append_left hj4]
          have : (me.push { key := .int .i64 q, val := .bool true, born := clock }).toList[j] = me.toList[j] := by simp [List.getElem_append_left hj3]
          rw [this]; exact (h j hj3 hj4).1
        · have h9 : (me.push { key := .int .i64 q, val := .bool true, born := clock }).toList[j] = me.toList[j] := by simp [List.getElem_append_left hj3]
          rw [h9]; exact (h j hj3 hj4).2
  · have hf := run_findKey hk g4 w
    have hq : ks.contains q = true := by simpa using g1
    have hs : setIn ks q = ks := by unfold setIn; rw [hq]; rfl
    rw [Nat.sub_zero] at g3 g5
    have hki : ((me[i]?).map (·.key)).getD (.int .i64 q) = .int .i64 q := by
      have h1 := (h i g3 (by omega)).1
      rw [g5 (by omega)] at h1
      have h2 : i < me.size := by simpa using g3
      rw [Array.getElem?_eq_getElem h2]
      simpa using h1
    refine ⟨me.modify i fun e => { e with key := .int .i64 q, val := .bool true }, clock, ?_, ?_, ?_⟩
    · have hst := run_staysW (P := P) q w
      simp [Instr.mapUpdate, Sem.run_bind, run_underlying hu, run_getObjW hb, hc, hf]
      simp only [hki, hst, Result.andThen, run_setObjW hb]
    · rw [hs]; simpa using hl
    · rw [hs]
      intro j hj hj'
      have hj3 : j < me.toList.length := by simpa using hj
      have hjs : j < me.size := by simpa using hj3
      have := h j hj3 hj'
      have hm : (me.modify i fun e => { e with key := .int .i64 q, val := .bool true }).toList[j] = if i = j then { me[j] with key := .int .i64 q, val := .bool true } else me[j] := by
        rw [Array.getElem_toList, Array.getElem_modify]
      rw [hm]
      by_cases e : i = j
      · subst e
        rw [if_pos rfl]
        exact ⟨by rw [g5 hj'], rfl⟩
      · rw [if_neg e]
        simpa using this
theorem set_obj {g : Ghost} {w : World} {H : AHeap} (hi : Inv g w H) {b : Nat} {ks : List Int} (hH : H b = some (.amap (encSet ks))) : (g.lim b = 0 ∧ ¬ g.pr b) ∧ ∃ (me : Array MapEntry) (clock : Nat), w.heap[b]? = some (.map me clock) ∧ me.toList.length = ks.length ∧
    ∀ j (h : j < me.toList.length) (h' : j < ks.length), me.toList[j].key = .int .i64 ks[j] ∧ me.toList[j].val = .bool true := by
  obtain ⟨hbase, h1, me, clock, h2, h3, h4⟩ := hi.obj b _ hH
  have hl : me.size = ks.length := by rw [← h3]; simp [encSet]
  refine ⟨h1, me, clock, h2, by simpa using hl, fun j hj hj' => ?_⟩
  have hj2 : j < me.size := by simpa using hj
  obtain ⟨h5, h6⟩ := h4 j (by simpa [encSet] using hj') hj2
  simp only [encSet, List.getElem_map] at h5 h6
  rw [Array.getElem_toList]
  refine ⟨h5.symm, ?_⟩
  generalize me[j].val = v at h6
  cases h6; rfl
section
variable {P : Program} {tt : TT} {n : Nat} {ops : Array Oper} {rest : List Oper} {F : Fr} {H : AHeap} {dst : Option Tmp} {ty : TypeId} {pos : String} {af : Array Edge} {K : APost}
theorem s_lookupS {t key elem : TypeId} {bb : IntKind} (hu : P.underlying t = some (.map key elem)) (hk : P.underlying key = some (.int bb)) (hz : ∀ w, (zeroValue elem).run P w = .ok (.bool false) w) {x i : Operand} {b : Nat} {ks : List Int} {q : Int} (hd : dstOk n dst = true) (hx : opd F x = some (.mapv b)) (hi' : opd F i = some (.i q))
    (hH : H b = some (.amap (encSet ks))) (hK : AOps P n ops rest (F.put dst (.b (ks.contains q))) H K) : AOps P n ops (⟨dst, .lookup t x i false, ty, pos, af, none⟩ :: rest) F H K :=
  AOps_cons (op_of_value hd fun g a w hi hf => by
    obtain ⟨-, me, clock, h2, h3, h4⟩ := set_obj hi hH
    have ex : a.eval x = .map (some b) := by
      have := hf.opd hx
      generalize a.eval x = v at this
      cases this; rfl
    have ei := (hf.opd hi').eq_sc
    have hr := run_lookupS hu hk hz (q := q) h2 h3 h4
    refine ⟨.bool (ks.contains q), w, g, .b (ks.contains q), H, ?_, Ext.refl _ _, hi, .sc trivial, hK⟩
    simp [execOp, ex, ei, hr])
theorem s_updateS {t key elem : TypeId} {bb : IntKind} (hu : P.underlying t = some (.map key elem)) (hk : P.underlying key = some (.int bb)) {m x v : Operand} {b : Nat} {ks : List Int} {q : Int} (hx : opd F m = some (.mapv b)) (hi' : opd F x = some (.i q)) (hv : opd F v = some (.b true))
    (hH : H b = some (.amap (encSet ks))) (hK : AOps P n ops rest F (H.put b (.amap (encSet (setIn ks q)))) K) : AOps P n ops (⟨none, .mapUpdate t m x v, ty, pos, af, none⟩ :: rest) F H K :=
  AOps_cons (op_of_skip fun g a w hi hf => by
    obtain ⟨⟨hlim, hpr⟩, me, clock, h2, h3, h4⟩ := set_obj hi hH
    have ex : a.eval m = .map (some b) := by
      have := hf.opd hx
      generalize a.eval m = v at this
      cases this; rfl
    have ei := (hf.opd hi').eq_sc
    have ev := (hf.opd hv).eq_sc
    obtain ⟨me', c', hr, h5, h6⟩ := run_updateS hu hk (q := q) h2 h3 h4
    obtain ⟨he, hinv⟩ := inv_withObj hi hH h2 (o' := .map me' c') (p' := .amap (encSet (setIn ks q))) rfl rfl hpr (fun _ => ⟨⟨hlim, hpr⟩, me', c', withObj_same w b _ _ h2, by simp [encSet] at h5 ⊢; exact h5.symm, fun j hj hj' => by
      have hj2 : j < me'.toList.length := by simpa using hj'
      have hj3 : j < (setIn ks q).length := by simpa [encSet] using hj
      obtain ⟨h7, h8⟩ := h6 j hj2 hj3
      rw [Array.getElem_toList] at h7 h8
      simp only [encSet, List.getElem_map]
      exact ⟨h7.symm, by rw [h8]; exact .sc trivial⟩⟩)
    refine ⟨_, g, _, ?_, he, hinv, hK⟩
    simp [execOp, ex, ei, ev, hr])
end
end Abs
end Go.Proofs.Ytbldnaflffmddaa
