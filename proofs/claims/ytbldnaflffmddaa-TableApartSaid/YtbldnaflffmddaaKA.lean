import Derived.Test.YtbldnaflffmddaaA10
import Derived.Test.YtbldnaflffmddaaP0
set_option linter.unusedVariables false
namespace Go.Proofs.Ytbldnaflffmddaa
namespace Abs
open Go.RowKit

/-! ### rows: of what is built, from rows, and nil -/
section
variable {P : Program} {tt : TT} {n : Nat} {ops : Array Oper} {rest : List Oper} {F : Fr} {H : AHeap} {dst : Option Tmp} {ty : TypeId} {pos : String} {af : Array Edge} {K : APost}
theorem VR.row_form {g : Ghost} {w : World} {b off m cap : Nat} {cv : Value} (h : VR g w (.row b off m cap) cv) : cv = .slice (some ⟨b, off, none⟩) m cap := by
  cases h; rfl
theorem s_rownil (tk : TTok tt P) {t yt : TypeId} {x : Operand} {b off m cap : Nat} {e : Nat × Nat × Nat} (hd : dstOk n dst = true) (hx : opd F x = some (.row b off m cap)) (ht : find tt.slc t = some e)
    (hK : AOps P n ops rest (F.put dst (.sc (.bool false))) H K) : AOps P n ops (⟨dst, .binOp .eql t x (.const (.slice none 0 0)) yt, ty, pos, af, none⟩ :: rest) F H K :=
  AOps_cons (op_of_value hd fun g a w hi hf => by
    obtain ⟨hu, _⟩ := tk.slc (e := e.1) (es := e.2.1) (eb := e.2.2) ht
    have hcv := (hf.opd hx).row_form
    refine ⟨.bool false, w, g, .sc (.bool false), H, ?_, Ext.refl _ _, hi, .sc trivial, hK⟩
    show (do let v ← (do eqGuard .eql t x (.const (.slice none 0 0)) (a.eval x) (.slice none 0 0); binOp .eql t (a.eval x) (.slice none 0 0) : Sem Value); pure (Next.value v) : Sem Next).run P w = _
    rw [hcv]
    show (do let v ← (do pure PUnit.unit; pure (.bool (← Op.equal t (.slice (some ⟨b, off, none⟩) m cap) (.slice none 0 0))) : Sem Value); pure (Next.value v) : Sem Next).run P w = _
    simp [equal_slice hu])
theorem s_bslicer (tk : TTok tt P) {t : TypeId} {len : Nat} {parts : Array (Nat × Operand)} {e es eb : Nat} {vs : List AVal} {rows : List (List AVal)} (hd : dstOk n dst = true) (ht : find tt.slc t = some (e, es, eb))
    (hp : inRow 0 parts.toList = true) (hvs : opds F (parts.toList.map (·.2)) = some vs) (hr : rowsOf vs = some rows) (hlen : rows.length = len) (hu : Uni es rows) (hsmall : len * es ≤ 16777216)
    (hK : ∀ b, H b = none → AOps P n ops rest (F.put dst (.row b 0 rows.length rows.length)) (H.put b (.cells rows.flatten)) K) : AOps P n ops (⟨dst, .buildSlice t len parts, ty, pos, af, none⟩ :: rest) F H K :=
  AOps_cons (op_of_value hd fun g a w hi hf => by
    obtain ⟨hes0, oc, hflat, hrun⟩ := run_bslice (dst := dst) (ty := ty) (pos := pos) (af := af) tk ht hp hvs hr hlen hu hsmall hf
    obtain ⟨hext, hinv⟩ := inv_alloc hi e hflat
    have harr : oc.toList.toArray = oc := by simp
    rw [harr] at hext hinv
    exact ⟨.slice (some ⟨w.heap.size, 0, none⟩) rows.length rows.length, _, g, .row w.heap.size 0 rows.length rows.length, _, hrun, hext, hinv, .row, hK _ hi.size_fresh⟩)
theorem s_append_rr (tk : TTok tt P) (hd : dstOk n dst = true) {t t2 : TypeId} {x y : Operand} {ys : List (List AVal)} {b0 m0 cap0 : Nat} {cs0 : List AVal} {e es eb : Nat} {e2 : Nat × Nat × Nat} {zs : List Value} {zc : List AVal} (hx : opd F x = some (.sl [] .full)) (hy : opd F y = some (.row b0 0 m0 cap0))
    (hH : H b0 = some (.cells cs0)) (hm0 : ys.length = m0) (hcs0 : cs0.take (m0 * es) = ys.flatten)
    (ht : find tt.slc t = some (e, es, eb)) (ht2 : find tt.slc t2 = some e2) (hz : find tt.zero e = some zs) (hc : absL zs = some zc) (huy : Uni es ys) (hne : 0 < ys.length) (hlen : ys.length * eb ≤ 140737488355328)
    (hK : ∀ b cap, H b = none → ys.length ≤ cap → AOps P n ops rest (F.put dst (.row b 0 ys.length cap)) (H.put b (.cells (ys.flatten ++ rep (cap - ys.length) zc))) K) :
    AOps P n ops (⟨dst, .call { callee := .builtin .append, args := #[x, y], argTypes := #[t, t2] }, ty, pos, af, none⟩ :: rest) F H K :=
  AOps_cons (op_of_value hd fun g a w hi hf => by
    subst hm0
    obtain ⟨hu, inf, z, hinf, hsz, hby, hes0, heb0, hiz, hzs⟩ := tk.slc ht
    obtain ⟨hu2, _⟩ := tk.slc (e := e2.1) (es := e2.2.1) (eb := e2.2.2) ht2
    obtain ⟨inf', z', hinf', hiz', hzl⟩ := tk.zero hz
    have : inf' = inf := by rw [hinf] at hinf'; cases hinf'; rfl
    subst this
    have : z' = z := by rw [hiz] at hiz'; cases hiz'; rfl
    subst this
    have hvx := hf.opd hx
    have ey := (hf.opd hy).row_form
    obtain ⟨c0, el0, hw0, hv0⟩ := hi.vrs (.inl hH)
    have hds : VRs g w ys.flatten (c0.toList.take (ys.length * es)) := by rw [← hcs0]; exact hv0.take _
    have hdl : (c0.toList.take (ys.length * es)).length = ys.length * es := by rw [← hds.1, huy.len]
    generalize hdse : c0.toList.take (ys.length * es) = ds at hds hdl
    have hdc : ∀ j v, ds[j]? = some v → w.cell? ⟨b0, 0 + j, none⟩ = some v := fun j v hv => by
      rw [Nat.zero_add, cell_of_row w b0 j c0 el0 (0, 0) hw0]
      rw [← hdse, List.getElem?_take] at hv
      split at hv
      · rw [Array.getElem?_toList] at hv; exact hv
      · cases hv
    have hux0 : Uni es ([] : List (List AVal)) := fun x h => by cases h
    obtain ⟨ax, capx, ex, hcx, _, cs, hcs, hcl, hcc⟩ := hvx.sl_cells hes0 hux0
    have hcap0 : capx = 0 := by
      rcases hcc with ⟨_, _, h, _⟩ | ⟨_, _, _, _, _, _, h⟩
      · exact h
      · exact h rfl
    subst hcap0
    have hcs0 : cs = [] := by simpa using hcl
    subst hcs0
    have hfx : (Builtin.firstCells es 0 (.slice ax 0 0)).run P w.drew = .ok #[] w.drew := by
      have := run_firstCells (P := P) (w := w.drew) (es := es) (m := 0) (a := ax) (k := 0) (cap := 0) (cs := []) (by simp) (.inl rfl)
      simpa using this
    have hfyd : (Builtin.firstCells es ys.length (.slice (some ⟨b0, 0, none⟩) ys.length cap0)).run P w.drew = .ok ds.toArray w.drew := run_firstCells hdl (.inr ⟨b0, 0, rfl, hdc⟩)
    have hlen' : ys.length ≤ 140737488355328 := Nat.le_trans (Nat.le_mul_of_pos_right _ heb0) hlen
    have hmax : IntKind.i64.max = 9223372036854775807 := by decide
    have hnext : Builtin.nextslicecap ys.length 0 * eb ≤ 2 ^ 48 := by
      have h1 : Builtin.nextslicecap ys.length 0 ≤ 2 * ys.length := nextslicecap_le ys.length 0 (by omega)
      have h2 := Nat.mul_le_mul_right eb h1
      rw [Nat.mul_assoc] at h2
      omega
    have hq : (Question.appendCap ys.length 0 e).forced = false := rfl
    let newCap := (Question.appendCap ys.length 0 e).cut (w.tape w.drawn (.appendCap ys.length 0 e))
    have hnc : ys.length ≤ newCap := by simp only [newCap, Question.cut]; omega
    have hrun : (execOp a.eval ⟨dst, .call { callee := .builtin .append, args := #[x, y], argTypes := #[t, t2] }, ty, pos, af, none⟩).run P w =
        .ok (.value (.slice (some ⟨w.heap.size, 0, none⟩) ys.length newCap)) (w.drew.alloc (.cells (ds.toArray ++ Builtin.zeroCells z'.cells (newCap - ys.length)) e)) := by
      have hc1 : ¬ (9223372036854775807 < (ys.length : Int)) := by omega
      have hc2 : ¬ (281474976710656 < Builtin.nextslicecap ys.length 0 * eb) := by omega
      have hc3 : ¬ (ys.length = 0) := by omega
      have hc4 : ys ≠ [] := fun e => hc3 (by rw [e]; rfl)
      simp only [List.length_nil] at ex
      simp [execOp, resolve, invoke, builtin, Builtin.append_, ex, ey, run_underlying hu, run_underlying hu2, run_sizeOf' hinf, hsz, Builtin.lenOf, hc4, run_typeInfo _ hinf, hby, hc1, hc2, hq, hfx, hfyd, run_zeroValue' hinf hiz, newRow, hmax]
      exact ⟨rfl, by simp [newCap]⟩
    have hi' := hi.drew
    have hvr : VRs g w.drew (ys.flatten ++ rep (newCap - ys.length) zc) (ds ++ (Builtin.zeroCells z'.cells (newCap - ys.length)).toList) := (hds.mono (ext_drew g w)).append (rep_zero hzl hc _)
    obtain ⟨hext, hinv⟩ := inv_alloc hi' e hvr
    have harr : (ds ++ (Builtin.zeroCells z'.cells (newCap - ys.length)).toList).toArray = ds.toArray ++ Builtin.zeroCells z'.cells (newCap - ys.length) := by simp
    rw [harr] at hext hinv
    exact ⟨.slice (some ⟨w.heap.size, 0, none⟩) ys.length newCap, _, g, .row w.heap.size 0 ys.length newCap, _, hrun, (ext_drew g w).trans hext, hinv, .row, hK _ _ hi.size_fresh hnc⟩)
end
end Abs
end Go.Proofs.Ytbldnaflffmddaa
