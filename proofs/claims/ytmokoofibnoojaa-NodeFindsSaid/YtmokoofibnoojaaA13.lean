import Derived.Test.YtmokoofibnoojaaA12
import Derived.Laws.StructEq
set_option linter.unusedVariables false
namespace Go.Proofs.Ytmokoofibnoojaa
namespace Abs

/-! ### append that begins a row of the call's own, which is written before anybody else sees it; and a row that is closed -/
theorem rep_zero {g : Ghost} {w : World} {z : Array Value} {zs : List Value} {zc : List AVal} (hz : z.toList = zs) (hc : absL zs = some zc) (m : Nat) : VRs g w (rep m zc) (Builtin.zeroCells z m).toList := by
  have hl := (absL_ok (g := g) (w := w) hc).1
  have hzl : zc.length = z.size := by rw [hl, ← hz, Array.length_toList (xs := z)]
  refine ⟨by rw [rep_len, Array.length_toList (xs := Builtin.zeroCells z m), hzl]; simp [Builtin.zeroCells], fun j h h' => ?_⟩
  have hj : j < m * zc.length := by rw [← rep_len]; exact h
  have hpos : 0 < zc.length := by
    rcases Nat.eq_zero_or_pos zc.length with e | e
    · rw [e] at hj; omega
    · exact e
  have hmod : j % zc.length < zc.length := Nat.mod_lt _ hpos
  have e1 : (rep m zc)[j] = zc[j % zc.length] := by
    have := rep_get m zc j hj
    rw [List.getElem?_eq_getElem h, List.getElem?_eq_getElem hmod] at this
    exact Option.some.inj this
  have hzz : j % z.size < z.size := by rw [← hzl]; exact hmod
  have e2 : (Builtin.zeroCells z m).toList[j] = z[j % z.size] := by
    simp [Builtin.zeroCells, hzz]
  rw [e1, e2]
  have hk := (absL_ok (g := g) (w := w) hc).2 (j % zc.length) hmod (by rw [← hz, Array.length_toList (xs := z), ← hzl]; exact hmod)
  subst hz
  simp only [Array.getElem_toList, hzl] at hk ⊢
  exact hk
section
variable {P : Program} {tt : TT} {n : Nat} {ops : Array Oper} {rest : List Oper} {F : Fr} {H : AHeap} {dst : Option Tmp} {ty : TypeId} {pos : String} {af : Array Edge} {K : APost}
theorem s_append_row (tk : TTok tt P) (hd : dstOk n dst = true) {t t2 : TypeId} {x y : Operand} {ys : List (List AVal)} {o2 : Own} {e es eb : Nat} {e2 : Nat × Nat × Nat} {zs : List Value} {zc : List AVal} (hx : opd F x = some (.sl [] .full)) (hy : opd F y = some (.sl ys o2))
    (ht : find tt.slc t = some (e, es, eb)) (ht2 : find tt.slc t2 = some e2) (hz : find tt.zero e = some zs) (hc : absL zs = some zc) (huy : Uni es ys) (hne : 0 < ys.length) (hlen : ys.length * eb ≤ 140737488355328)
    (hK : ∀ b cap, H b = none → ys.length ≤ cap → AOps P n ops rest (F.put dst (.row b 0 ys.length cap)) (H.put b (.cells (ys.flatten ++ rep (cap - ys.length) zc))) K) :
    AOps P n ops (⟨dst, .call { callee := .builtin .append, args := #[x, y], argTypes := #[t, t2] }, ty, pos, af, none⟩ :: rest) F H K :=
  AOps_cons (op_of_value hd fun g a w hi hf => by
    obtain ⟨hu, inf, z, hinf, hsz, hby, hes0, heb0, hiz, hzs⟩ := tk.slc ht
    obtain ⟨hu2, _⟩ := tk.slc (e := e2.1) (es := e2.2.1) (eb := e2.2.2) ht2
    obtain ⟨inf', z', hinf', hiz', hzl⟩ := tk.zero hz
    have : inf' = inf := by rw [hinf] at hinf'; cases hinf'; rfl
    subst this
    have : z' = z := by rw [hiz] at hiz'; cases hiz'; rfl
    subst this
    have hvx := hf.opd hx
    have hvy := hf.opd hy
    obtain ⟨ay, capy, ey, hcy, _, ds, hds, hdl, hdc⟩ := hvy.sl_cells hes0 huy
    have hux0 : Uni es ([] : List (List AVal)) := fun x h => by cases h
    obtain ⟨ax, capx, ex, hcx, _, cs, hcs, hcl, hcc⟩ := hvx.sl_cells hes0 hux0
    have hcap0 : capx = 0 := by
      rcases hcc with ⟨_, _, h, _⟩ | ⟨_, _, _, _, _, _, h⟩
      · exact h
      · exact h rfl
    subst hcap0
    have hcs0 : cs = [] := by simpa using hcl
    subst hcs0
    have hfx : (Builtin.firstCells es 0 (.slice ax 0 0)).run P w.drew = .ok #[] w.drew := by
      have := run_firstCells (P := P) (w := w.drew) (es := es) (m := 0) (a := ax) (k := 0) (cap := 0) (cs := []) (by simp) (.inl rfl)
      simpa using this
    have hfyd : (Builtin.firstCells es ys.length (.slice ay ys.length capy)).run P w.drew = .ok ds.toArray w.drew := run_firstCells hdl (by
      rcases hdc with ⟨h1, h2, _⟩ | ⟨b, o, h1, h2, _⟩
      · exact .inl h2
      · exact .inr ⟨b, o, h1, h2⟩)
    have hlen' : ys.length ≤ 140737488355328 := Nat.le_trans (Nat.le_mul_of_pos_right _ heb0) hlen
    have hmax : IntKind.i64.max = 9223372036854775807 := by decide
    have hnext : Builtin.nextslicecap ys.length 0 * eb ≤ 2 ^ 48 := by
      have h1 : Builtin.nextslicecap ys.length 0 ≤ 2 * ys.length := nextslicecap_le ys.length 0 (by omega)
      have h2 := Nat.mul_le_mul_right eb h1
      rw [Nat.mul_assoc] at h2
      omega
    have hq : (Question.appendCap ys.length 0 e).forced = false := rfl
    let newCap := (Question.appendCap ys.length 0 e).cut (w.tape w.drawn (.appendCap ys.length 0 e))
    have hnc : ys.length ≤ newCap := by simp only [newCap, Question.cut]; omega
    have hrun : (execOp a.eval ⟨dst, .call { callee := .builtin .append, args := #[x, y], argTypes := #[t, t2] }, ty, pos, af, none⟩).run P w =
        .ok (.value (.slice (some ⟨w.heap.size, 0, none⟩) ys.length newCap)) (w.drew.alloc (.cells (ds.toArray ++ Builtin.zeroCells z'.cells (newCap - ys.length)) e)) := by
      have hc1 : ¬ (9223372036854775807 < (ys.length : Int)) := by omega
      have hc2 : ¬ (281474976710656 < Builtin.nextslicecap ys.length 0 * eb) := by omega
      have hc3 : ¬ (ys.length = 0) := by omega
      have hc4 : ys ≠ [] := fun e => hc3 (by rw [e]; rfl)
      simp only [List.length_nil] at ex
      simp [execOp, resolve, invoke, builtin, Builtin.append_, ex, ey, run_underlying hu, run_underlying hu2, run_sizeOf' hinf, hsz, Builtin.lenOf, hc4, run_typeInfo _ hinf, hby, hc1, hc2, hq, hfx, hfyd, run_zeroValue' hinf hiz, newRow, hmax]
      exact ⟨rfl, by simp [newCap]⟩
    have hi' := hi.drew
    have hvr : VRs g w.drew (ys.flatten ++ rep (newCap - ys.length) zc) (ds ++ (Builtin.zeroCells z'.cells (newCap - ys.length)).toList) := (hds.mono (ext_drew g w)).append (rep_zero hzl hc _)
    obtain ⟨hext, hinv⟩ := inv_alloc hi' e hvr
    have harr : (ds ++ (Builtin.zeroCells z'.cells (newCap - ys.length)).toList).toArray = ds.toArray ++ Builtin.zeroCells z'.cells (newCap - ys.length) := by simp
    rw [harr] at hext hinv
    exact ⟨.slice (some ⟨w.heap.size, 0, none⟩) ys.length newCap, _, g, .row w.heap.size 0 ys.length newCap, _, hrun, (ext_drew g w).trans hext, hinv, .row, hK _ _ hi.size_fresh hnc⟩)

/-- A row of the call's own that is not written any more. -/
theorem aops_close {l : List Oper} {d b off m cap es : Nat} {cs : List AVal} {rows : List (List AVal)} (hd : F.get d = some (.row b off m cap)) (hH : H b = some (.cells cs)) (hes : 0 < es) (hu : Uni es rows) (hl : rows.length = m)
    (hcs : (cs.drop off).take (m * es) = rows.flatten) (hmx : m ≤ 140737488355328) (hmc : m ≤ cap) (hcap : off + cap * es ≤ cs.length) (h : AOps P n ops l ((d, .sl rows .no) :: F) (H.del b) K) : AOps P n ops l F H K := fun g a w Q hi hf hk => by
  obtain ⟨hbase, ⟨hlim, hpr⟩, c, el, hw, hcl, hcv⟩ := hi.obj b _ hH
  have hdel : (H.del b) b = none := by simp [AHeap.del]
  have hlt : b < w.heap.size := (Array.getElem?_eq_some_iff.1 hw).1
  have hi1 := inv_seal (e := off + m * es) (hi.sub (AHeap.del_sub (AHeap.sub_refl H) b)) (by omega) hlt hdel
  have hext : Ext g w (g.fix b (off + m * es)) w := ext_seal (by omega)
  have hmce : m * es ≤ cap * es := Nat.mul_le_mul_right _ hmc
  have hvs : VRs g w rows.flatten ((c.toList.drop off).take (m * es)) := by
    rw [← hcs]
    have h0 : VRs g w cs c.toList := ⟨by rw [hcl, Array.length_toList (xs := c)], fun j h1 h2 => by
      have := hcv j h1 (by rw [← hcl]; exact h1)
      simpa using this⟩
    exact (h0.drop off).take (m * es)
  have hvr : VR (g.fix b (off + m * es)) w (.sl rows .no) (.slice (some ⟨b, off, none⟩) rows.length cap) := by
    refine VR.sl_mk hes hu (hvs.mono hext) (fun j v hv => ?_) (by rw [hl]; exact imm_seal _ _ _) (by omega) (by rw [hl]; simp only [maxLen]; omega) ⟨el, c.size, by unfold World.shape?; rw [hw], by omega⟩ trivial
    rw [cell_of_row w b _ c el (0, 0) hw]
    rw [List.getElem?_take] at hv
    split at hv
    · rw [List.getElem?_drop, Array.getElem?_toList] at hv; exact hv
    · cases hv
  rw [hl] at hvr
  have hf1 := hf.mono hext
  refine h (g.fix b (off + m * es)) a w Q hi1 ⟨hf1.size, hf1.defers, fun t v ht => ?_⟩ (fun g' a' w' F' H' he hi' hf' hK => hk g' a' w' F' H' (hext.trans he) hi' hf' hK)
  simp only [Fr.get] at ht
  cases hx : Nat.beq d t with
  | true =>
    rw [hx] at ht
    cases ht
    obtain ⟨cv, h1, h2⟩ := hf.slot d _ hd
    rw [← Nat.eq_of_beq_eq_true hx]
    refine ⟨cv, h1, ?_⟩
    cases h2
    exact hvr
  | false => rw [hx] at ht; exact hf1.slot t v ht
end
end Abs
end Go.Proofs.Ytmokoofibnoojaa

set_option linter.unusedVariables false
namespace Go.Proofs.Ytmokoofibnoojaa
namespace Abs

/-! ### structs of plain fields, compared -/
def eqCells (tt : TT) : List (Nat × Nat) → List AVal → List AVal → Option Bool
  | [], _, _ => some true
  | (t, off) :: fs, xs, ys =>
    match xs[off]?, ys[off]?, eqCells tt fs xs ys with
    | some (.sc (.int k a)), some (.sc (.int k' b)), some r => if k = k' ∧ find tt.ints t = some k ∧ find tt.size t = some (1, false) then some (decide (a = b) && r) else none
    | some (.sc (.string a)), some (.sc (.string b)), some r => if find tt.strs t = some () ∧ find tt.size t = some (1, false) then some (decide (a = b) && r) else none
    | some (.sc (.bool a)), some (.sc (.bool b)), some r => if find tt.bools t = some () ∧ find tt.size t = some (1, false) then some (decide (a = b) && r) else none
    | _, _, _ => none
theorem run_part_sc {P : Program} {tt : TT} (tk : TTok tt P) {t : Nat} {k : Nat} (ht : find tt.size t = some (k, false)) {cs : Array Value} {off : Nat} {v : Value} (hv : cs[off]? = some v) (w : World) : (part t cs off).run P w = .ok v w := by
  obtain ⟨i, d, _, _, hd, ha⟩ := tk.size ht
  unfold part
  rw [Sem.run_bind, run_isAgg' hd w, ha]
  simp [hv]
theorem vrs_sc {g : Ghost} {w : World} {xs : List AVal} {cs : Array Value} (h : VRs g w xs cs.toList) {j : Nat} {v : Value} (hv : xs[j]? = some (.sc v)) : cs[j]? = some v := by
  obtain ⟨cv, h1, h2⟩ := h.get hv
  have := h2.eq_sc
  subst this
  simpa using h1
theorem eqCells_ok {P : Program} {tt : TT} (tk : TTok tt P) {g : Ghost} {w : World} {xs ys : List AVal} {cx cy : Array Value} (hx : VRs g w xs cx.toList) (hy : VRs g w ys cy.toList) (d : Nat) (w' : World) :
    ∀ {fs : List Field} {r : Bool}, (∀ f ∈ fs, f.name ≠ "_") → eqCells tt (fs.map fun f => (f.type, f.offset)) xs ys = some r → (Op.eqFields (d + 1) cx cy fs).run P w' = .ok r w'
  | [], r, _, h => by cases h; simp [Op.eqFields]
  | f :: fs, r, hn, h => by
    have hn1 := hn f List.mem_cons_self
    simp only [List.map_cons, eqCells] at h
    unfold Op.eqFields
    rw [if_pos hn1]
    split at h
    · rename_i k a k' b r' h1 h2 h3
      have ih := eqCells_ok tk hx hy d w' (fun f hf => hn f (List.mem_cons_of_mem _ hf)) h3
      split at h
      · rename_i hc
        obtain ⟨rfl, hc1, hc2⟩ := hc
        cases h
        have p1 := run_part_sc tk hc2 (vrs_sc hx h1) w'
        have p2 := run_part_sc tk hc2 (vrs_sc hy h2) w'
        have p3 := run_equalIn_int (P := P) w' d f.type k k a b (tk.ints hc1)
        simp only [Sem.run_bind, p1, p2, p3, Result.andThen_ok]
        by_cases e : a = b
        · subst e; simp [ih]
        · have : (a == b) = false := by simpa using e
          simp [this, e]
      · cases h
    · rename_i a b r' h1 h2 h3
      have ih := eqCells_ok tk hx hy d w' (fun f hf => hn f (List.mem_cons_of_mem _ hf)) h3
      split at h
      · rename_i hc
        obtain ⟨hc1, hc2⟩ := hc
        cases h
        have p1 := run_part_sc tk hc2 (vrs_sc hx h1) w'
        have p2 := run_part_sc tk hc2 (vrs_sc hy h2) w'
        have p3 := run_equalIn_string (P := P) w' d f.type a b (tk.strs hc1)
        simp only [Sem.run_bind, p1, p2, p3, Result.andThen_ok]
        by_cases e : a = b
        · subst e; simp [ih]
        · have : (a.toList == b.toList) = false := by
            refine beq_eq_false_iff_ne.2 fun h => e ?_
            rw [ByteArray.toList_eq, ByteArray.toList_eq] at h
            obtain ⟨x⟩ := a
            obtain ⟨y⟩ := b
            exact congrArg ByteArray.mk (Array.toList_inj.1 h)
          simp [this, e]
      · cases h
    · rename_i a b r' h1 h2 h3
      have ih := eqCells_ok tk hx hy d w' (fun f hf => hn f (List.mem_cons_of_mem _ hf)) h3
      split at h
      · rename_i hc
        obtain ⟨hc1, hc2⟩ := hc
        cases h
        have p1 := run_part_sc tk hc2 (vrs_sc hx h1) w'
        have p2 := run_part_sc tk hc2 (vrs_sc hy h2) w'
        have p3 := run_equalIn_bool' (P := P) w' d f.type a b (tk.bools hc1)
        simp only [Sem.run_bind, p1, p2, p3, Result.andThen_ok]
        by_cases e : a = b
        · subst e; simp [ih]
        · have : (a == b) = false := by simpa using e
          simp [this, e]
      · cases h
    · cases h
/-- What the program says of a struct type whose values are compared. -/
def eqType (P : Program) (t : TypeId) : Bool := !(P.stoodInHeld t) && !(P.eqGuardType P.depth t) && ((P.fieldsOf t).toList.all fun f => !(f.name == "_"))
section
variable {P : Program} {tt : TT} {n : Nat} {ops : Array Oper} {rest : List Oper} {F : Fr} {H : AHeap} {dst : Option Tmp} {ty : TypeId} {pos : String} {af : Array Edge} {K : APost}
theorem agg_eq {g : Ghost} {w : World} {xs : List AVal} {cv : Value} (h : VR g w (.agg xs) cv) : ∃ cs, cv = .agg cs ∧ VRs g w xs cs.toList := by
  cases h with
  | agg h1 h2 => exact ⟨_, rfl, by simpa using h1, fun j a b => by have := h2 j a (by simpa using b); simpa using this⟩
theorem pures_eqagg (tk : TTok tt P) {t yt : TypeId} {op : BinOp} {x y : Operand} {xs ys : List AVal} {fs : List (Nat × Nat)} {r : Bool} (ho : op = .eql ∨ op = .neq) (hx : opd F x = some (.agg xs)) (hy : opd F y = some (.agg ys)) (ht : find tt.flds t = some fs)
    (he : eqType P t = true) (hr : eqCells tt fs xs ys = some r) : Pures P n ⟨dst, .binOp op t x y yt, ty, pos, af, none⟩ F (.sc (.bool (if op = .eql then r else !r))) := fun g a w hf => by
  obtain ⟨cx, ex, hvx⟩ := agg_eq (hf.opd hx)
  obtain ⟨cy, ey, hvy⟩ := agg_eq (hf.opd hy)
  obtain ⟨fds, hu, hl, _⟩ := tk.flds ht
  simp only [eqType, Bool.and_eq_true, Bool.not_eq_true', List.all_eq_true] at he
  obtain ⟨⟨hs, hg⟩, hnm⟩ := he
  have hfo : P.fieldsOf t = fds := by simp [Program.fieldsOf, hu]
  have hrun : ∀ w', (Op.equalIn 10000 t (.agg cx) (.agg cy)).run P w' = .ok r w' := fun w' => by
    rw [run_equalIn_agg (P := P) w' 9999 t cx cy (by rw [hfo]; exact hu) hs]
    refine eqCells_ok tk hvx hvy 9998 w' (fun f hf => ?_) ?_
    · have := hnm f hf
      simpa using this
    · rw [hfo, hl]; exact hr
  rcases ho with rfl | rfl
  · refine ⟨.bool r, fun w' => ?_, by rw [if_pos rfl]; exact .sc trivial⟩
    have h1 := run_eqGuard_agg (P := P) w' .eql t x y cx cy hg
    have h2 := run_eql_struct (P := P) w' t cx cy
    rw [hrun] at h2
    simp only [execOp, ex, ey, Sem.run_bind, h1, h2, Result.andThen_ok, Sem.run_pure]
  · refine ⟨.bool (!r), fun w' => ?_, by rw [if_neg (by decide)]; exact .sc trivial⟩
    have h1 := run_eqGuard_agg (P := P) w' .neq t x y cx cy hg
    have h2 := run_neq_struct (P := P) w' t cx cy
    rw [hrun] at h2
    simp only [execOp, ex, ey, Sem.run_bind, h1, h2, Result.andThen_ok, Sem.run_pure]
theorem s_eqagg (tk : TTok tt P) (hd : dstOk n dst = true) {t yt : TypeId} {op : BinOp} {x y : Operand} {xs ys : List AVal} {fs : List (Nat × Nat)} {r : Bool} (ho : op = .eql ∨ op = .neq) (hx : opd F x = some (.agg xs)) (hy : opd F y = some (.agg ys)) (ht : find tt.flds t = some fs)
    (he : eqType P t = true) (hr : eqCells tt fs xs ys = some r) (hK : AOps P n ops rest (F.put dst (.sc (.bool (if op = .eql then r else !r)))) H K) : AOps P n ops (⟨dst, .binOp op t x y yt, ty, pos, af, none⟩ :: rest) F H K :=
  AOps_cons (op_of_pures (pures_eqagg tk ho hx hy ht he hr) hd hK)
end
section
variable {n : Nat} {ops : Array Oper} {F : Fr} {H : AHeap} {K : APost} {i : Nat} {p : Plan} {dst : Option Tmp} {op : Op} {ty : TypeId} {pos : String} {af : Array Edge} {gd : Nat × Bool}
/-- A step that its guard leaves out. -/
theorem d5 (ho : ops[i]? = some ⟨dst, op, ty, pos, af, some gd⟩) (hg : gval ops F (some gd) = some false) (hd : dstOk n dst = true) (h : AP Try.prog n ops p (F.put dst (.tup [])) H K) : AP Try.prog n ops (.one i p) F H K :=
  d4 ho (w3 hd hg (w4 h))
end
end Abs
end Go.Proofs.Ytmokoofibnoojaa

set_option linter.unusedVariables false
namespace Go.Proofs.Ytmokoofibnoojaa
namespace Abs

/-! ### a field of a value -/
section
variable {P : Program} {tt : TT} {n : Nat} {ops : Array Oper} {rest : List Oper} {F : Fr} {H : AHeap} {dst : Option Tmp} {ty : TypeId} {pos : String} {af : Array Edge} {K : APost}
theorem pures_field (tk : TTok tt P) {t : TypeId} {x : Operand} {f : Nat} {xs : List AVal} {fs : List (Nat × Nat)} {ft off k : Nat} {v : AVal} (hx : opd F x = some (.agg xs)) (ht : find tt.flds t = some fs) (hf' : fs[f]? = some (ft, off)) (hs : find tt.size ft = some (k, false)) (hv : xs[off]? = some v) :
    Pures P n ⟨dst, .field t x f, ty, pos, af, none⟩ F v := fun g a w hf => by
  obtain ⟨cx, ex, hvx⟩ := agg_eq (hf.opd hx)
  obtain ⟨fds, hu, hl, _⟩ := tk.flds ht
  obtain ⟨cv, h1, h2⟩ := hvx.get hv
  have h1' : cx[off]? = some cv := by simpa using h1
  rw [← hl, List.getElem?_map] at hf'
  obtain ⟨fd, hfd, he⟩ := Option.map_eq_some_iff.1 hf'
  cases he
  have hfd' : fds[f]? = some fd := by simpa using hfd
  refine ⟨cv, fun w' => ?_, h2⟩
  have hp := run_part_sc tk hs h1' w'
  simp [execOp, Instr.field, ex, run_underlying hu, hfd', asAgg, hp]
theorem s_field (tk : TTok tt P) (hd : dstOk n dst = true) {t : TypeId} {x : Operand} {f : Nat} {xs : List AVal} {fs : List (Nat × Nat)} {ft off k : Nat} {v : AVal} (hx : opd F x = some (.agg xs)) (ht : find tt.flds t = some fs) (hf : fs[f]? = some (ft, off)) (hs : find tt.size ft = some (k, false)) (hv : xs[off]? = some v)
    (hK : AOps P n ops rest (F.put dst v) H K) : AOps P n ops (⟨dst, .field t x f, ty, pos, af, none⟩ :: rest) F H K := AOps_cons (op_of_pures (pures_field tk hx ht hf hs hv) hd hK)
end
end Abs
end Go.Proofs.Ytmokoofibnoojaa
