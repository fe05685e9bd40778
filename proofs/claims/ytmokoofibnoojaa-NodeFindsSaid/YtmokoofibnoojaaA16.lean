import Derived.Test.YtmokoofibnoojaaA13
import Derived.Laws.CopyRow
set_option linter.unusedVariables false
namespace Go.Proofs.Ytmokoofibnoojaa
namespace Abs

/-! ### copy into a row of the call's own; a row that becomes a slice which may grow -/
section
variable {P : Program} {tt : TT} {n : Nat} {ops : Array Oper} {rest : List Oper} {F : Fr} {H : AHeap} {dst : Option Tmp} {ty : TypeId} {pos : String} {af : Array Edge} {K : APost}
theorem VRs.sub_take {g : Ghost} {w : World} {xs : List AVal} {cs : List Value} (h : VRs g w xs cs) (k : Nat) : VRs g w (xs.take k) (cs.take k) := h.take k
theorem s_copy (tk : TTok tt P) (hd : dstOk n dst = true) {t t2 : TypeId} {x y : Operand} {b off m cap : Nat} {xs : List (List AVal)} {o2 : Own} {e es eb : Nat} {cs : List AVal} (hx : opd F x = some (.row b off m cap)) (hy : opd F y = some (.sl xs o2)) (hH : H b = some (.cells cs))
    (ht : find tt.slc t = some (e, es, eb)) (hux : Uni es xs) (hfl : flatA xs.flatten = true) (hm : m ≤ xs.length) (hfit : off + m * es ≤ cs.length)
    (hK : AOps P n ops rest (F.put dst (.sc (.int .i64 m))) (H.put b (.cells (cs.take off ++ (xs.flatten.take (m * es)) ++ cs.drop (off + m * es)))) K) :
    AOps P n ops (⟨dst, .call { callee := .builtin .copy, args := #[x, y], argTypes := #[t, t2] }, ty, pos, af, none⟩ :: rest) F H K :=
  AOps_cons (op_of_value hd fun g a w hi hf => by
    obtain ⟨hu, inf, z, hinf, hsz, hby, hes0, heb0, hiz, hzs⟩ := tk.slc ht
    have hvx := hf.opd hx
    have hvy := hf.opd hy
    obtain ⟨ay, capy, ey, hcy, _, ds, hds, hdl, hdc⟩ := hvy.sl_cells hes0 hux
    have ex : a.eval x = .slice (some ⟨b, off, none⟩) m cap := by
      generalize a.eval x = cv at hvx
      cases hvx; rfl
    obtain ⟨c, el, hb, hvs⟩ := (hi.obj b _ hH).2.vrs
    have hlen := hvs.1
    have hme : m * es ≤ xs.length * es := Nat.mul_le_mul_right _ hm
    have hvd : VRs g w (xs.flatten.take (m * es)) (ds.take (m * es)) := hds.take _
    have hdl' : (ds.take (m * es)).length = m * es := by rw [List.length_take]; omega
    have hone : ∀ v ∈ ds.take (m * es), v.oneCell' = true := fun v hv => flat_one hds hfl v (List.mem_of_mem_take hv)
    have hfy : (Builtin.firstCells es m (.slice ay xs.length capy)).run P w = .ok (ds.take (m * es)).toArray w := run_firstCells hdl' (by
      rcases hdc with ⟨h1, h2, _⟩ | ⟨b', o, h1, h2, _⟩
      · exact .inl (by rw [h2]; simp)
      · exact .inr ⟨b', o, h1, fun j v hv => h2 j v (by rw [List.getElem?_take] at hv; split at hv <;> first | exact hv | cases hv)⟩)
    have hst := run_storeCells_at P b off el (ds.take (m * es)) 0 c w hb (by simp at hlen ⊢; omega) hone
    simp only [Nat.add_zero, hdl'] at hst
    obtain ⟨he, hi'⟩ := inv_store hi hH hb (c' := c.toList.take off ++ ds.take (m * es) ++ c.toList.drop (off + m * es)) (by simp at hlen ⊢; omega) (((hvs.take off).append hvd).append (hvs.drop (off + m * es)))
    refine ⟨.int .i64 m, _, g, .sc (.int .i64 m), _, ?_, he, hi', .sc trivial, hK⟩
    have hmin : min xs.length m = m := by omega
    have hmin2 : Nat.min xs.length m = m := hmin
    simp [execOp, resolve, invoke, builtin, Builtin.copy_, ex, ey, run_underlying hu, run_sizeOf' hinf, hsz, Builtin.lenOf, hmin2, hfy, hst, goInt])
theorem aops_own {l : List Oper} {d b off m cap es : Nat} {cs : List AVal} {rows : List (List AVal)} (hd : F.get d = some (.row b off m cap)) (hH : H b = some (.cells cs)) (hes : 0 < es) (hu : Uni es rows) (hl : rows.length = m)
    (hcs : (cs.drop off).take (m * es) = rows.flatten) (hmx : m ≤ 140737488355328) (hmc : m ≤ cap) (hcap : off + cap * es ≤ cs.length) (h : AOps P n ops l ((d, .sl rows (.tok b (off + m * es) es)) :: F) (H.put b (.grow (off + m * es))) K) : AOps P n ops l F H K := fun g a w Q hi hf hk => by
  obtain ⟨hbase, ⟨hlim, hpr⟩, c, el, hw, hcl, hcv⟩ := hi.obj b _ hH
  have hdel : (H.del b) b = none := by simp [AHeap.del]
  have hlt : b < w.heap.size := (Array.getElem?_eq_some_iff.1 hw).1
  have hi0 := inv_seal (e := off + m * es) (hi.sub (AHeap.del_sub (AHeap.sub_refl H) b)) (by omega) hlt hdel
  have hi1 : Inv (g.fix b (off + m * es)) w (H.put b (.grow (off + m * es))) := ⟨hi0.base_le, hi0.fresh, fun x o hx => by
    by_cases e : x = b
    · subst e
      rw [put_same] at hx
      cases hx
      exact ⟨hbase, ⟨by simp [Ghost.fix], hpr⟩, c, el, hw⟩
    · rw [put_ne e] at hx
      exact hi0.obj x o (by simp [AHeap.del, e, hx])⟩
  have hext : Ext g w (g.fix b (off + m * es)) w := ext_seal (by omega)
  have hmce : m * es ≤ cap * es := Nat.mul_le_mul_right _ hmc
  have hvs : VRs g w rows.flatten ((c.toList.drop off).take (m * es)) := by
    rw [← hcs]
    have h0 : VRs g w cs c.toList := ⟨by rw [hcl, Array.length_toList (xs := c)], fun j h1 h2 => by
      have := hcv j h1 (by rw [← hcl]; exact h1)
      simpa using this⟩
    exact (h0.drop off).take (m * es)
  have hvr : VR (g.fix b (off + m * es)) w (.sl rows (.tok b (off + m * es) es)) (.slice (some ⟨b, off, none⟩) rows.length cap) := by
    refine VR.sl_mk hes hu (hvs.mono hext) (fun j v hv => ?_) (by rw [hl]; exact imm_seal _ _ _) (by omega) (by rw [hl]; simp only [maxLen]; omega) ⟨el, c.size, by unfold World.shape?; rw [hw], by omega⟩ ⟨rfl, by rw [hl], rfl, hbase⟩
    rw [cell_of_row w b _ c el (0, 0) hw]
    rw [List.getElem?_take] at hv
    split at hv
    · rw [List.getElem?_drop, Array.getElem?_toList] at hv; exact hv
    · cases hv
  rw [hl] at hvr
  have hf1 := hf.mono hext
  refine h (g.fix b (off + m * es)) a w Q hi1 ⟨hf1.size, hf1.defers, fun t v ht => ?_⟩ (fun g' a' w' F' H' he hi' hf' hK => hk g' a' w' F' H' (hext.trans he) hi' hf' hK)
  simp only [Fr.get] at ht
  cases hx : Nat.beq d t with
  | true =>
    rw [hx] at ht
    cases ht
    obtain ⟨cv, h1, h2⟩ := hf.slot d _ hd
    rw [← Nat.eq_of_beq_eq_true hx]
    refine ⟨cv, h1, ?_⟩
    cases h2
    exact hvr
  | false => rw [hx] at ht; exact hf1.slot t v ht
/-- An append to a row of the call's own: the row, or a new one. -/
theorem s_rowapp (tk : TTok tt P) (hd : dstOk n dst = true) {t t2 : TypeId} {x y : Operand} {b m cap : Nat} {rows ys : List (List AVal)} {o2 : Own} {e es eb : Nat} {e2 : Nat × Nat × Nat} {zs : List Value} {zc cs : List AVal} (hx : opd F x = some (.row b 0 m cap)) (hH : H b = some (.cells cs)) (hy : opd F y = some (.sl ys o2))
    (ht : find tt.slc t = some (e, es, eb)) (ht2 : find tt.slc t2 = some e2) (hz : find tt.zero e = some zs) (hc : absL zs = some zc) (hru : Uni es rows) (hrl : rows.length = m) (hcs : cs.take (m * es) = rows.flatten) (hcap : cs.length = cap * es) (hmc : m ≤ cap) (huy : Uni es ys) (hfl : flatA ys.flatten = true) (hne : 0 < m) (hlen : (m + ys.length) * eb ≤ 140737488355328)
    (hK : ∀ b' cap' cs', (b' = b ∨ H b' = none) → m + ys.length ≤ cap' → cs'.length = cap' * es → cs'.take ((m + ys.length) * es) = (rows ++ ys).flatten → AOps P n ops rest (F.put dst (.row b' 0 (m + ys.length) cap')) ((H.del b).put b' (.cells cs')) K) :
    AOps P n ops (⟨dst, .call { callee := .builtin .append, args := #[x, y], argTypes := #[t, t2] }, ty, pos, af, none⟩ :: rest) F H K :=
  AOps_cons (op_of_value hd fun g a w hi hf => by
    obtain ⟨hu, inf, z, hinf, hsz, hby, hes0, heb0, hiz, hzs⟩ := tk.slc ht
    obtain ⟨hu2, _⟩ := tk.slc (e := e2.1) (es := e2.2.1) (eb := e2.2.2) ht2
    obtain ⟨inf', z', hinf', hiz', hzl⟩ := tk.zero hz
    have : inf' = inf := by rw [hinf] at hinf'; cases hinf'; rfl
    subst this
    have : z' = z := by rw [hiz] at hiz'; cases hiz'; rfl
    subst this
    have hvx := hf.opd hx
    have hvy := hf.opd hy
    obtain ⟨ay, capy, ey, hcy, _, ds, hds, hdl, hdc⟩ := hvy.sl_cells hes0 huy
    have ex : a.eval x = .slice (some ⟨b, 0, none⟩) m cap := by
      generalize a.eval x = cv at hvx
      cases hvx; rfl
    obtain ⟨c, el, hb, hvs⟩ := (hi.obj b _ hH).2.vrs
    have hlc := hvs.1
    have hmes : m * es ≤ cap * es := Nat.mul_le_mul_right _ hmc
    have hxl : (c.toList.take (m * es)).length = m * es := by rw [List.length_take]; omega
    have hxcell : ∀ (w' : World), w'.heap = w.heap → ∀ j v, (c.toList.take (m * es))[j]? = some v → w'.cell? ⟨b, 0 + j, none⟩ = some v := fun w' hw' j v hv => by
      rw [cell_of_row w' b (0 + j) c el (0, 0) (by rw [hw']; exact hb), Nat.zero_add]
      rw [List.getElem?_take] at hv
      split at hv
      · rw [Array.getElem?_toList] at hv; exact hv
      · cases hv
    have hfx : (Builtin.firstCells es m (.slice (some ⟨b, 0, none⟩) m cap)).run P w.drew = .ok (c.toList.take (m * es)).toArray w.drew := run_firstCells hxl (.inr ⟨b, 0, rfl, hxcell w.drew rfl⟩)
    have hfy : ∀ w', w'.heap = w.heap → (Builtin.firstCells es ys.length (.slice ay ys.length capy)).run P w' = .ok ds.toArray w' := fun w' hw' => run_firstCells hdl (by
      rcases hdc with ⟨h1, h2, _⟩ | ⟨b, o, h1, h2, _⟩
      · exact .inl h2
      · refine .inr ⟨b, o, h1, fun j v hv => ?_⟩
        have := h2 j v hv
        unfold World.cell? at this ⊢
        rw [hw']; exact this)
    have hlen' : m + ys.length ≤ 140737488355328 := Nat.le_trans (Nat.le_mul_of_pos_right _ heb0) hlen
    have hone : ∀ v ∈ ds, v.oneCell' = true := flat_one hds hfl
    have hadd : (m + ys.length) * es = m * es + ys.length * es := Nat.add_mul _ _ _
    have hfl2 : ys.flatten.length = ys.length * es := huy.len
    have htk : (cs.take (m * es)).length = m * es := by rw [List.length_take]; omega
    by_cases hle : m + ys.length ≤ cap
    · have hfyw := hfy w rfl
      have hmul : (m + ys.length) * es ≤ cap * es := Nat.mul_le_mul_right _ hle
      have hst := run_storeCells_at P b (m * es) el ds 0 c w hb (by simp at hlc; omega) hone
      simp only [Nat.add_zero] at hst
      obtain ⟨he, hi'⟩ := inv_store hi hH hb (c' := c.toList.take (m * es) ++ ds ++ c.toList.drop (m * es + ds.length)) (by simp at hlc ⊢; omega) (((hvs.take (m * es)).append hds).append (hvs.drop (m * es + ds.length)))
      have hput : (H.del b).put b (.cells (cs.take (m * es) ++ ys.flatten ++ cs.drop (m * es + ds.length))) = H.put b (.cells (cs.take (m * es) ++ ys.flatten ++ cs.drop (m * es + ds.length))) := by
        funext x; simp only [AHeap.put, AHeap.del]; split <;> simp_all
      refine ⟨.slice (some ⟨b, 0, none⟩) (m + ys.length) cap, _, g, .row b 0 (m + ys.length) cap, _, ?_, he, hi', .row, ?_⟩
      · simp [execOp, resolve, invoke, builtin, Builtin.append_, ex, ey, run_underlying hu, run_underlying hu2, run_sizeOf' hinf, hsz, Builtin.lenOf, hle, hfyw, add_plain, hst]
      · have := hK b cap (cs.take (m * es) ++ ys.flatten ++ cs.drop (m * es + ds.length)) (.inl rfl) hle (by rw [List.length_append, List.length_append, List.length_drop, htk, hfl2, hdl]; omega) (by
          rw [List.flatten_append, ← hcs, hadd]
          rw [List.take_left' (by rw [List.length_append, htk, hfl2])])
        rw [hput] at this
        exact this
    · have hmax : IntKind.i64.max = 9223372036854775807 := by decide
      have hnext : Builtin.nextslicecap (m + ys.length) cap * eb ≤ 2 ^ 48 := by
        have h1 : Builtin.nextslicecap (m + ys.length) cap ≤ 2 * (m + ys.length) := nextslicecap_le (m + ys.length) cap (by omega)
        have h2 := Nat.mul_le_mul_right eb h1
        rw [Nat.mul_assoc] at h2
        omega
      have hq : (Question.appendCap (m + ys.length) cap e).forced = false := rfl
      let newCap := (Question.appendCap (m + ys.length) cap e).cut (w.tape w.drawn (.appendCap (m + ys.length) cap e))
      have hnc : m + ys.length ≤ newCap := by simp only [newCap, Question.cut]; omega
      have hrun : (execOp a.eval ⟨dst, .call { callee := .builtin .append, args := #[x, y], argTypes := #[t, t2] }, ty, pos, af, none⟩).run P w =
          .ok (.value (.slice (some ⟨w.heap.size, 0, none⟩) (m + ys.length) newCap)) (w.drew.alloc (.cells ((c.toList.take (m * es)).toArray ++ ds.toArray ++ Builtin.zeroCells z'.cells (newCap - (m + ys.length))) e)) := by
        have hc1 : ¬ (9223372036854775807 < (m : Int) + (ys.length : Int)) := by omega
        have hc2 : ¬ (281474976710656 < Builtin.nextslicecap (m + ys.length) cap * eb) := by omega
        have hfyd := hfy w.drew rfl
        simp [execOp, resolve, invoke, builtin, Builtin.append_, ex, ey, run_underlying hu, run_underlying hu2, run_sizeOf' hinf, hsz, Builtin.lenOf, hle, run_typeInfo _ hinf, hby, hc1, hc2, hq, hfx, hfyd, run_zeroValue' hinf hiz, newRow, hmax]
        refine ⟨rfl, ?_⟩
        rw [← Array.append_assoc]
        simp [newCap]
      have hi' := (hi.sub (AHeap.del_sub (AHeap.sub_refl H) b)).drew
      have hvr : VRs g w.drew (cs.take (m * es) ++ ys.flatten ++ rep (newCap - (m + ys.length)) zc) (c.toList.take (m * es) ++ ds ++ (Builtin.zeroCells z'.cells (newCap - (m + ys.length))).toList) := (((hvs.take (m * es)).append hds).mono (ext_drew g w)).append (rep_zero hzl hc _)
      obtain ⟨hext, hinv⟩ := inv_alloc hi' e hvr
      have harr : (c.toList.take (m * es) ++ ds ++ (Builtin.zeroCells z'.cells (newCap - (m + ys.length))).toList).toArray = (c.toList.take (m * es)).toArray ++ ds.toArray ++ Builtin.zeroCells z'.cells (newCap - (m + ys.length)) := by simp
      rw [harr] at hext hinv
      have hzc : zc.length = es := by
        have h := (absL_ok (g := g) (w := w) hc).1
        rw [h, ← hzl, Array.length_toList (xs := z'.cells)]; exact hzs
      refine ⟨.slice (some ⟨w.heap.size, 0, none⟩) (m + ys.length) newCap, _, g, .row w.heap.size 0 (m + ys.length) newCap, _, hrun, (ext_drew g w).trans hext, hinv, .row, hK _ newCap _ (.inr hi.size_fresh) hnc ?_ ?_⟩
      · have h1 : newCap * es = (m + ys.length) * es + (newCap - (m + ys.length)) * es := by rw [← Nat.add_mul]; congr 1; omega
        rw [List.length_append, List.length_append, htk, hfl2, rep_len, hzc]; omega
      · rw [List.flatten_append, ← hcs, hadd]
        rw [List.take_left' (by rw [List.length_append, htk, hfl2])])
end
end Abs
end Go.Proofs.Ytmokoofibnoojaa
