import Derived.Test.YtmokoofibnoojaaA2
set_option linter.unusedVariables false
namespace Go.Proofs.Ytmokoofibnoojaa
namespace Abs
open Go.RowKit

theorem VR.eq_ptr {g : Ghost} {w : World} {b off : Nat} {cv : Value} (h : VR g w (.ptr b off) cv) : cv = .pointer (some ⟨b, off, none⟩) := by cases h; rfl
theorem VR.eq_sc {g : Ghost} {w : World} {v cv : Value} (h : VR g w (.sc v) cv) : cv = v := by cases h; rfl
theorem add_plain (b o j : Nat) : (⟨b, o, none⟩ : Addr).add j = ⟨b, o + j, none⟩ := by unfold Addr.add; split <;> simp_all

theorem VRs.arr {g : Ghost} {w : World} {xs : List AVal} {cs : Array Value} (h : VRs g w xs cs.toList) : xs.length = cs.size ∧ ∀ j (h : j < xs.length) (h' : j < cs.size), VR g w xs[j] cs[j] :=
  ⟨by simpa using h.1, fun j h1 h2 => by have := h.2 j h1 (by simpa using h2); rw [Array.getElem_toList] at this; exact this⟩
theorem VRs.of_arr {g : Ghost} {w : World} {xs : List AVal} {cs : Array Value} (h1 : xs.length = cs.size) (h2 : ∀ j (h : j < xs.length) (h' : j < cs.size), VR g w xs[j] cs[j]) : VRs g w xs cs.toList :=
  ⟨by simpa using h1, fun j h3 h4 => by have := h2 j h3 (by simpa using h4); rw [Array.getElem_toList]; exact this⟩
theorem VRs.to_arr {g : Ghost} {w : World} {xs : List AVal} {cs : List Value} (h : VRs g w xs cs) : VRs g w xs cs.toArray.toList := by simpa using h

section
variable {P : Program} {tt : TT} {n : Nat} {ops : Array Oper} {F : Fr} {H : AHeap} {dst : Option Tmp} {ty : TypeId} {pos : String} {af : Array Edge} {K : APost}

/-! ### load -/
theorem run_load_sc {w : World} {t : TypeId} {d : TypeDesc} (hd : P.underlying t = some d) (ha : aggD d = false) {a : Addr} {cv : Value} (hc : w.cell? a = some cv) : (loadVar t a).run P w = .ok cv w := by
  unfold loadVar
  rw [Sem.run_bind, run_isAgg' hd w, ha]
  simp [hc]
theorem run_load_agg {w : World} {t : TypeId} {d : TypeDesc} {i : TypeInfo} (hd : P.underlying t = some d) (ha : aggD d = true) (hi : P.info? t = some i) {a : Addr} {cs : List Value} (hl : cs.length = i.size)
    (hc : ∀ j v, cs[j]? = some v → w.cell? (a.add j) = some v) : (loadVar t a).run P w = .ok (.agg cs.toArray) w := by
  unfold loadVar
  rw [Sem.run_bind, run_isAgg' hd w, ha]
  have h1 := run_loadCells_list (P := P) w a cs hc
  rw [hl] at h1
  simp [run_sizeOf' hi w, h1]

theorem reads_load_sc (tk : TTok tt P) {t : TypeId} {x : Operand} {b off k : Nat} {cs : List AVal} {v : AVal} (hx : opd F x = some (.ptr b off)) (hH : Rd H b cs) (ht : find tt.size t = some (k, false)) (hv : cs[off]? = some v) :
    Reads P n ⟨dst, .load t x, ty, pos, af, none⟩ F H v := fun g a w hi hf => by
  have hp := (hf.opd hx).eq_ptr
  obtain ⟨i, d, hti, hk, hd, ha⟩ := tk.size ht
  obtain ⟨c, el, hb, hvs⟩ := hi.vrs hH
  obtain ⟨cv, h1, h2⟩ := hvs.get hv
  refine ⟨cv, ?_, h2⟩
  have hc : w.cell? ⟨b, off, none⟩ = some cv := by rw [cell_of_row w b off c el _ hb]; simpa using h1
  simp [execOp, Instr.loadAt, Instr.sureAddr, hp, run_load_sc hd ha hc]
theorem reads_load_agg (tk : TTok tt P) {t : TypeId} {x : Operand} {b off k : Nat} {cs : List AVal} (hx : opd F x = some (.ptr b off)) (hH : Rd H b cs) (ht : find tt.size t = some (k, true)) (hl : off + k ≤ cs.length) :
    Reads P n ⟨dst, .load t x, ty, pos, af, none⟩ F H (.agg ((cs.drop off).take k)) := fun g a w hi hf => by
  have hp := (hf.opd hx).eq_ptr
  obtain ⟨i, d, hti, hk, hd, ha⟩ := tk.size ht
  obtain ⟨c, el, hb, hvs⟩ := hi.vrs hH
  have hvs' := (hvs.drop off).take k
  have hlen := hvs.1
  refine ⟨.agg ((c.toList.drop off).take k).toArray, ?_, ?_⟩
  · have hc : ∀ j v, ((c.toList.drop off).take k)[j]? = some v → w.cell? ((⟨b, off, none⟩ : Addr).add j) = some v := fun j v hv => by
      rw [add_plain, cell_of_row w b _ c el _ hb]
      rw [List.getElem?_take] at hv
      split at hv
      · simpa using hv
      · cases hv
    have := run_load_agg hd ha hti (a := ⟨b, off, none⟩) (cs := (c.toList.drop off).take k) (by simp at hlen ⊢; omega) hc
    simp [execOp, Instr.loadAt, Instr.sureAddr, hp, this]
  · exact .agg hvs'.to_arr.arr.1 hvs'.to_arr.arr.2
theorem reads_load_whole (tk : TTok tt P) {t : TypeId} {x : Operand} {b k : Nat} {cs : List AVal} (hx : opd F x = some (.ptr b 0)) (hH : Rd H b cs) (ht : find tt.size t = some (k, true)) (hl : cs.length = k) :
    Reads P n ⟨dst, .load t x, ty, pos, af, none⟩ F H (.agg cs) := by
  have := reads_load_agg (ty := ty) (pos := pos) (af := af) (dst := dst) (n := n) tk hx hH ht (by omega)
  simpa [← hl] using this
/-- Through a pointer into a row that nobody writes. -/
theorem reads_ept_sc (tk : TTok tt P) {t : TypeId} {x : Operand} {c : List AVal} {off k : Nat} {v : AVal} (hx : opd F x = some (.ept c off)) (ht : find tt.size t = some (k, false)) (hv : c[off]? = some v) :
    Reads P n ⟨dst, .load t x, ty, pos, af, none⟩ F H v := fun g a w hi hf => by
  have hp := hf.opd hx
  generalize hcv : a.eval x = cv0 at hp
  obtain ⟨i, d, hti, hk, hd, ha⟩ := tk.size ht
  obtain ⟨hj, rfl⟩ := List.getElem?_eq_some_iff.1 hv
  cases hp with
  | @ept _ _ b o cv h1 h2 h3 =>
    exact ⟨cv off, by simp [execOp, Instr.loadAt, Instr.sureAddr, hcv, run_load_sc hd ha (h2 off hj)], h3 off hj⟩
theorem reads_ept_agg (tk : TTok tt P) {t : TypeId} {x : Operand} {c : List AVal} {off k : Nat} (hx : opd F x = some (.ept c off)) (ht : find tt.size t = some (k, true)) (hl : off + k ≤ c.length) :
    Reads P n ⟨dst, .load t x, ty, pos, af, none⟩ F H (.agg ((c.drop off).take k)) := fun g a w hi hf => by
  have hp := hf.opd hx
  generalize hcv : a.eval x = cv0 at hp
  obtain ⟨i, d, hti, hk, hd, ha⟩ := tk.size ht
  cases hp with
  | @ept _ _ b o cv h1 h2 h3 =>
    have hlen : ((List.range k).map fun j => cv (off + j)).length = i.size := by simp [hk]
    refine ⟨.agg ((List.range k).map fun j => cv (off + j)).toArray, ?_, ?_⟩
    · have := run_load_agg (w := w) hd ha hti (a := ⟨b, o + off, none⟩) hlen (fun j v hv => by
        rw [add_plain]
        obtain ⟨hj, rfl⟩ := List.getElem?_eq_some_iff.1 hv
        simp at hj
        rw [show o + off + j = o + (off + j) by omega, h2 (off + j) (by omega)]
        simp)
      simp [execOp, Instr.loadAt, Instr.sureAddr, hcv] at this ⊢
      rw [this]
      rfl
    · refine .agg (by simp; omega) (fun j hj hj' => ?_)
      simp at hj hj'
      have := h3 (off + j) (by omega)
      simpa using this

/-! ### store -/
theorem op_store_sc (tk : TTok tt P) {t : TypeId} {x y : Operand} {b off k : Nat} {cs : List AVal} {v : AVal} (hx : opd F x = some (.ptr b off)) (hy : opd F y = some v) (hH : H b = some (.cells cs))
    (ht : find tt.size t = some (1, false)) (hl : off < cs.length) (h1 : one v = true) (hK : K F (H.put b (.cells (cs.set off v)))) : AOp P n ops ⟨none, .store t x y, ty, pos, af, none⟩ F H K :=
  op_of_skip fun g a w hi hf => by
    have hp := (hf.opd hx).eq_ptr
    have hv := hf.opd hy
    obtain ⟨i, d, hti, hk, hd, ha⟩ := tk.size ht
    obtain ⟨c, el, hb, hvs⟩ := (hi.obj b _ hH).2.vrs
    obtain ⟨h2, h3⟩ := hv.one h1
    have hlen := hvs.1
    have hst := run_storeCells_at P b off el [a.eval y] 0 c w hb (by simp at hlen ⊢; omega) (by simpa using h2)
    obtain ⟨he, hi'⟩ := inv_store hi hH hb (c' := c.toList.set off (a.eval y)) (by simp) (hvs.set off hv)
    refine ⟨_, g, _, ?_, he, hi', hK⟩
    have hset : c.toList.take off ++ [a.eval y] ++ c.toList.drop (off + 1) = c.toList.set off (a.eval y) := by
      rw [List.set_eq_take_append_cons_drop, if_pos (by simp at hlen ⊢; omega)]; simp
    simp only [Nat.add_zero, List.length_singleton, hset] at hst
    simp [execOp, Instr.storeAt, Instr.sureAddr, hp, storeVar, run_sizeOf' hti w, hk, h3, hst]
theorem op_store_agg (tk : TTok tt P) {t : TypeId} {x y : Operand} {b off k : Nat} {cs vs : List AVal} (hx : opd F x = some (.ptr b off)) (hy : opd F y = some (.agg vs)) (hH : H b = some (.cells cs))
    (ht : find tt.size t = some (k, true)) (hk' : vs.length = k) (hl : off + k ≤ cs.length) (h1 : flatA vs = true) (hK : K F (H.put b (.cells (cs.take off ++ vs ++ cs.drop (off + k))))) : AOp P n ops ⟨none, .store t x y, ty, pos, af, none⟩ F H K :=
  op_of_skip fun g a w hi hf => by
    have hp := (hf.opd hx).eq_ptr
    have hv := hf.opd hy
    generalize hcv : a.eval y = cv0 at hv
    obtain ⟨i, d, hti, hk, hd, ha⟩ := tk.size ht
    obtain ⟨c, el, hb, hvs⟩ := (hi.obj b _ hH).2.vrs
    have hlen := hvs.1
    have hvc : VRs g w vs cv0.cells.toList := hv.cellsOf rfl
    have hl2 := hvc.1
    have hst := run_storeCells_at P b off el cv0.cells.toList 0 c w hb (by simp at hlen ⊢; simp at hl2; omega) (flat_one hvc h1)
    simp only [Nat.add_zero, ← hl2, hk'] at hst
    obtain ⟨he, hi'⟩ := inv_store hi hH hb (c' := c.toList.take off ++ cv0.cells.toList ++ c.toList.drop (off + k)) (by simp at hlen hl2 ⊢; omega) (((hvs.take off).append hvc).append (hvs.drop (off + k)))
    refine ⟨_, g, _, ?_, he, hi', hK⟩
    have hsz : cv0.cells.size = i.size := by simp at hl2; omega
    simp [execOp, Instr.storeAt, Instr.sureAddr, hp, hcv, storeVar, run_sizeOf' hti w, hsz]
    simpa using congrArg (fun r => r.andThen fun a w' => Result.ok Next.skip w') hst
theorem op_store_whole (tk : TTok tt P) {t : TypeId} {x y : Operand} {b k : Nat} {cs vs : List AVal} (hx : opd F x = some (.ptr b 0)) (hy : opd F y = some (.agg vs)) (hH : H b = some (.cells cs))
    (ht : find tt.size t = some (k, true)) (hk' : vs.length = k) (hl : cs.length = k) (h1 : flatA vs = true) (hK : K F (H.put b (.cells vs))) : AOp P n ops ⟨none, .store t x y, ty, pos, af, none⟩ F H K :=
  op_store_agg tk hx hy hH ht hk' (by omega) h1 (by simpa [← hl] using hK)

/-! ### new variables -/
theorem op_box (hd : dstOk n dst = true) {e : TypeId} {x : Operand} {v : AVal} {cs : List AVal} (hx : opd F x = some v) (hc : cellsOf v = some cs) (hK : ∀ b, H b = none → K (F.put dst (.ptr b 0)) (H.put b (.cells cs))) :
    AOp P n ops ⟨dst, .box e x, ty, pos, af, none⟩ F H K :=
  op_of_value hd fun g a w hi hf => by
    have hv := (hf.opd hx).cellsOf hc
    obtain ⟨he, hi'⟩ := inv_alloc hi e hv
    exact ⟨.pointer (some ⟨w.heap.size, 0, none⟩), _, g, .ptr w.heap.size 0, _, by simp [execOp, Instr.box, newVar, newRow], he, hi', .ptr, hK _ hi.size_fresh⟩
theorem op_alloc (tk : TTok tt P) (hd : dstOk n dst = true) {e : TypeId} {zs : List Value} {cs : List AVal} (hz : find tt.zero e = some zs) (hc : absL zs = some cs) (hK : ∀ b, H b = none → K (F.put dst (.ptr b 0)) (H.put b (.cells cs))) :
    AOp P n ops ⟨dst, .alloc e, ty, pos, af, none⟩ F H K :=
  op_of_value hd fun g a w hi hf => by
    obtain ⟨i, v, h1, h2, h3⟩ := tk.zero hz
    obtain ⟨he, hi'⟩ := inv_alloc hi e (cs := cs) (c := v.cells.toList) (by rw [h3]; exact absL_ok hc)
    refine ⟨.pointer (some ⟨w.heap.size, 0, none⟩), _, g, .ptr w.heap.size 0, _, ?_, he, hi', .ptr, hK _ hi.size_fresh⟩
    simp [execOp, Instr.alloc, newVar, newRow, run_zeroValue' h1 h2 w]

/-! ### calls -/
/-- Function f has a body, and is none of the machine's own. -/
def fnOk (P : Program) (f : FuncId) : Bool := match P.funcs[f]? with
  | some fn => !(fn.name == "runtime.NumGoroutine") && fn.body.isSome
  | none => false
theorem run_callFunc {f : FuncId} (h : fnOk P f = true) (args : Array Value) (w : World) : (callFunc f args).run P w = .ok (.enter f args) w := by
  unfold fnOk at h
  split at h
  · rename_i fn hfn
    simp only [Bool.and_eq_true, Bool.not_eq_true'] at h
    obtain ⟨c, hb⟩ := Option.isSome_iff_exists.1 h.2
    have hn : ¬ fn.name = "runtime.NumGoroutine" := by simpa using h.1
    simp [callFunc, hfn, hn, hb]
  · cases h

theorem op_call_clo (hd : dstOk n dst = true) {c : Operand} {f : FuncId} {fs cs vs : List AVal} {xs : Array Operand} {at_ : Array TypeId} (hc : opd F c = some (.clo f fs cs)) (hf : fnOk P f = true) (hxs : opds F xs.toList = some vs)
    (hK : ACalls P f (fs ++ vs ++ cs) H (fun v H' => K (F.put dst v) H')) : AOp P n ops ⟨dst, .call { callee := .value c, args := xs, argTypes := at_ }, ty, pos, af, none⟩ F H K :=
  fun g a w Q Kc hi hfr hk => by
    rw [wanted_none]
    refine .inl ?_
    have hcv := hfr.opd hc
    generalize hce : a.eval c = cv0 at hcv
    obtain ⟨hl, hv⟩ := hfr.opds hxs
    cases hcv with
    | @clo _ _ _ fv cv h1 h2 h3 h4 =>
      unfold Oper.wp
      have hr : (execOp a.eval ⟨dst, .call { callee := .value c, args := xs, argTypes := at_ }, ty, pos, af, none⟩).run P w = .ok (.enter f (fv ++ xs.map a.eval ++ cv)) w := by
        simp [execOp, resolve, hce, Deferred.ofValue, invoke, run_callFunc hf]
      rw [hr, Oper.upon_enter]
      have hall : VRs g w (fs ++ vs ++ cs) (fv ++ xs.map a.eval ++ cv).toList := by
        rw [Array.toList_append, Array.toList_append]
        refine ((VRs.of_arr h1 h3).append (?_ : VRs g w vs (xs.map a.eval).toList)).append (VRs.of_arr h2 h4)
        refine ⟨by simpa using hl, fun j x y => ?_⟩
        have := hv j x (by simpa using y)
        simpa using this
      refine (hK g w _ hi hall.arr.1 hall.arr.2).mono ?_
      rintro e w' ⟨cv', g', v, H', rfl, he, hi', hv', hKv⟩
      exact hk g' _ w' _ H' he hi' ((hfr.mono he).put (dstOk_lt hd) hv') hKv
/-- A call of a function by its name. -/
theorem op_call (hd : dstOk n dst = true) {f : FuncId} {vs : List AVal} {xs : Array Operand} {at_ : Array TypeId} (hf : fnOk P f = true) (hxs : opds F xs.toList = some vs)
    (hK : ACalls P f vs H (fun v H' => K (F.put dst v) H')) : AOp P n ops ⟨dst, .call { callee := .value (.func f), args := xs, argTypes := at_ }, ty, pos, af, none⟩ F H K :=
  op_call_clo hd (f := f) (fs := []) (cs := []) rfl hf hxs (by simpa using hK)

theorem ACalls.mono {f : FuncId} {args : List AVal} {R R' : AVal → AHeap → Prop} (h : ACalls P f args H R) (hr : ∀ v H', R v H' → R' v H') : ACalls P f args H R' :=
  fun g w cargs hi hl hv => (h g w cargs hi hl hv).mono fun e w' ⟨cv, g', v, H', he, h1, h2, h3, h4⟩ => ⟨cv, g', v, H', he, h1, h2, h3, hr _ _ h4⟩
theorem ACalls.sub {f : FuncId} {args : List AVal} {H' : AHeap} {R : AVal → AHeap → Prop} (h : ACalls P f args H R) (hs : H.sub H') : ACalls P f args H' R :=
  fun g w cargs hi hl hv => h g w cargs (hi.sub hs) hl hv
/-- What is handed in may be known better than is asked. -/
theorem ACalls.wk {f : FuncId} {args args' : List AVal} {R : AVal → AHeap → Prop} (h : ACalls P f args' H R) (hw : Wk (.tup args) (.tup args')) : ACalls P f args H R :=
  fun g w cargs hi hl hv => by
    have h1 : VR g w (.tup args) (.tuple cargs) := .tup hl hv
    have h2 := h1.wk hw
    cases h2 with
    | tup a b => exact h g w cargs hi a b

/-! ### a function's body -/
def argFr : List AVal → Nat → Fr
  | [], _ => []
  | v :: vs, k => (k, v) :: argFr vs (k + 1)
theorem argFr_get : ∀ (vs : List AVal) (k t : Nat) (v : AVal), (argFr vs k).get t = some v → k ≤ t ∧ vs[t - k]? = some v
  | [], _, _, _, h => by cases h
  | u :: us, k, t, v, h => by
    simp only [argFr, Fr.get] at h
    cases hx : Nat.beq k t with
    | true =>
      rw [hx] at h
      have := Nat.eq_of_beq_eq_true hx
      subst this
      cases h
      simp
    | false =>
      rw [hx] at h
      obtain ⟨h1, h2⟩ := argFr_get us (k + 1) t v h
      have e : t - k = (t - (k + 1)) + 1 := by omega
      exact ⟨by omega, by rw [e]; simpa using h2⟩

/-- What the result variables hold. -/
def ResOk (P : Program) (fn : Func) (n : Nat) (F : Fr) (H : AHeap) (v : AVal) : Prop :=
  ∀ g a w, Inv g w H → FR g w n F a → ∃ cv, (results fn a.tmps).run P w = .ok cv w ∧ VR g w v cv
def retQ (P : Program) (fn : Func) (n : Nat) (K : AVal → AHeap → Prop) : AQ
  | .normal, F, H | .ret, F, H => ∃ v, ResOk P fn n F H v ∧ ∃ v' H', Wk v v' ∧ H'.sub H ∧ K v' H'
  | _, _, _ => False

theorem acalls_body {f : FuncId} {fn : Func} {c : Code} {args : List AVal} {K : AVal → AHeap → Prop} (hf : P.funcs[f]? = some fn) (hb : fn.body = some c) {m : Nat} (hm : fn.ntmps = m) (hn : Nat.ble args.length m = true)
    (h : AW P m c (argFr args 0) H (retQ P fn m K)) : ACalls P f args H K := fun g w cargs hi hl hv => by
  subst hm
  have hle : args.length ≤ fn.ntmps := Nat.le_of_ble_eq_true hn
  refine calls_of_wp hf hb ?_
  refine h g _ w _ hi ⟨?_, rfl, fun t v ht => ?_⟩ (fun e g' a' w' F' H' he hi' hf' hq => ?_)
  · simp; omega
  · obtain ⟨_, h2⟩ := argFr_get _ _ _ _ ht
    obtain ⟨hj, rfl⟩ := List.getElem?_eq_some_iff.1 h2
    simp only [Nat.sub_zero] at hj ⊢
    exact ⟨cargs[t]'(by omega), by rw [Array.getElem?_append_left (by omega), Array.getElem?_eq_getElem], hv t hj (by omega)⟩
  · cases e with
    | normal =>
      obtain ⟨v, hr, v', H2, hwk, hsub, hK⟩ := hq
      obtain ⟨cv, h1, h2⟩ := hr g' a' w' hi' hf'
      exact ⟨hf'.defers, cv, h1, cv, g', v', H2, rfl, he, hi'.sub hsub, h2.wk hwk, hK⟩
    | ret =>
      obtain ⟨v, hr, v', H2, hwk, hsub, hK⟩ := hq
      obtain ⟨cv, h1, h2⟩ := hr g' a' w' hi' hf'
      exact ⟨hf'.defers, cv, h1, cv, g', v', H2, rfl, he, hi'.sub hsub, h2.wk hwk, hK⟩
    | exit id => exact hq.elim
    | goto l => exact hq.elim
    | panic ch => exact hq.elim
    | outgrown => exact hq.elim

/-- One result variable. -/
def rvSem (tmps : Array Value) (r : ResultVar) : Sem Value :=
  match r with
  | .tmp t => pure (tmps.getD t undef)
  | .cell p t => do loadVar t (← asAddr (tmps.getD p undef))
theorem results_eq (fn : Func) (tmps : Array Value) : results fn tmps = (do
    let vs ← fn.results.mapM (rvSem tmps)
    pure (if h : vs.size = 1 then vs[0] else .tuple vs)) := rfl
def RVarOk (P : Program) (n : Nat) (F : Fr) (H : AHeap) (r : ResultVar) (v : AVal) : Prop :=
  ∀ g a w, Inv g w H → FR g w n F a → ∃ cv, (rvSem a.tmps r).run P w = .ok cv w ∧ VR g w v cv
theorem rvar_tmp {t : Nat} {v : AVal} (h : F.get t = some v) : RVarOk P n F H (.tmp t) v := fun g a w hi hf => by
  obtain ⟨cv, h1, h2⟩ := hf.slot t v h
  exact ⟨cv, by simp [rvSem, h1], h2⟩
theorem rvar_agg (tk : TTok tt P) {p : Nat} {t : TypeId} {b k : Nat} {cs : List AVal} (h : F.get p = some (.ptr b 0)) (hH : Rd H b cs) (ht : find tt.size t = some (k, true)) (hl : cs.length = k) : RVarOk P n F H (.cell p t) (.agg cs) := fun g a w hi hf => by
  obtain ⟨cv, h1, h2⟩ := hf.slot p _ h
  have hp := h2.eq_ptr
  subst hp
  obtain ⟨cv2, h3, h4⟩ := reads_load_whole (n := n) (dst := none) (ty := 0) (pos := "") (af := #[]) (x := .tmp p) tk (F := F) h hH ht hl g a w hi hf
  refine ⟨cv2, ?_, h4⟩
  have hev : a.eval (.tmp p) = .pointer (some ⟨b, 0, none⟩) := by simp [Act.eval, h1]
  simp only [execOp, Instr.loadAt, Instr.sureAddr, hev, Sem.run_bind, Sem.run_pure, Result.andThen_ok] at h3
  cases hr : (loadVar t ⟨b, 0, none⟩).run P w with
  | ok x w2 =>
    rw [hr] at h3
    simp only [Result.andThen_ok] at h3
    injection h3 with e1 e2
    injection e1 with e3
    subst e3
    subst e2
    simp [rvSem, h1, asAddr, hr]
  | halt x w2 => rw [hr] at h3; simp at h3
theorem rvar_sc (tk : TTok tt P) {p : Nat} {t : TypeId} {b k : Nat} {cs : List AVal} {v : AVal} (h : F.get p = some (.ptr b 0)) (hH : Rd H b cs) (ht : find tt.size t = some (k, false)) (hv : cs[0]? = some v) : RVarOk P n F H (.cell p t) v := fun g a w hi hf => by
  obtain ⟨cv, h1, h2⟩ := hf.slot p _ h
  have hp := h2.eq_ptr
  subst hp
  obtain ⟨cv2, h3, h4⟩ := reads_load_sc (n := n) (dst := none) (ty := 0) (pos := "") (af := #[]) (x := .tmp p) tk (F := F) h hH ht hv g a w hi hf
  refine ⟨cv2, ?_, h4⟩
  have hev : a.eval (.tmp p) = .pointer (some ⟨b, 0, none⟩) := by simp [Act.eval, h1]
  simp only [execOp, Instr.loadAt, Instr.sureAddr, hev, Sem.run_bind, Sem.run_pure, Result.andThen_ok] at h3
  cases hr : (loadVar t ⟨b, 0, none⟩).run P w with
  | ok x w2 =>
    rw [hr] at h3
    simp only [Result.andThen_ok] at h3
    injection h3 with e1 e2
    injection e1 with e3
    subst e3
    subst e2
    simp [rvSem, h1, asAddr, hr]
  | halt x w2 => rw [hr] at h3; simp at h3

theorem res0 {fn : Func} (hr : fn.results = #[]) : ResOk P fn n F H (.tup []) := fun g a w hi hf => ⟨.tuple #[], by simp [results, hr], .tup rfl (fun j h => absurd h (Nat.not_lt_zero _))⟩
theorem res1 {fn : Func} {r : ResultVar} {v : AVal} (hr : fn.results = #[r]) (h : RVarOk P n F H r v) : ResOk P fn n F H v := fun g a w hi hf => by
  obtain ⟨cv, h1, h2⟩ := h g a w hi hf
  exact ⟨cv, by simp [results_eq, hr, h1], h2⟩
theorem res2 {fn : Func} {r1 r2 : ResultVar} {v1 v2 : AVal} (hr : fn.results = #[r1, r2]) (h1 : RVarOk P n F H r1 v1) (h2 : RVarOk P n F H r2 v2) : ResOk P fn n F H (.tup [v1, v2]) := fun g a w hi hf => by
  obtain ⟨c1, a1, b1⟩ := h1 g a w hi hf
  obtain ⟨c2, a2, b2⟩ := h2 g a w hi hf
  refine ⟨.tuple #[c1, c2], by simp [results_eq, hr, a1, a2], .tup rfl (fun j x y => ?_)⟩
  match j with
  | 0 => exact b1
  | 1 => exact b2
theorem res3 {fn : Func} {r1 r2 r3 : ResultVar} {v1 v2 v3 : AVal} (hr : fn.results = #[r1, r2, r3]) (h1 : RVarOk P n F H r1 v1) (h2 : RVarOk P n F H r2 v2) (h3 : RVarOk P n F H r3 v3) : ResOk P fn n F H (.tup [v1, v2, v3]) := fun g a w hi hf => by
  obtain ⟨c1, a1, b1⟩ := h1 g a w hi hf
  obtain ⟨c2, a2, b2⟩ := h2 g a w hi hf
  obtain ⟨c3, a3, b3⟩ := h3 g a w hi hf
  refine ⟨.tuple #[c1, c2, c3], by simp [results_eq, hr, a1, a2, a3], .tup rfl (fun j x y => ?_)⟩
  match j with
  | 0 => exact b1
  | 1 => exact b2
  | 2 => exact b3
end
end Abs
end Go.Proofs.Ytmokoofibnoojaa
