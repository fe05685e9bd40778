import Derived.Test.YtmokoofibnoojaaA5
set_option linter.unusedVariables false
namespace Go.Proofs.Ytmokoofibnoojaa
namespace Abs
open Go.RowKit

section
variable {P : Program} {tt : TT} {n : Nat} {ops : Array Oper} {F : Fr} {H : AHeap} {dst : Option Tmp} {ty : TypeId} {pos : String} {af : Array Edge} {K : APost}

/-! ### an element's place -/
theorem pures_index_sl (tk : TTok tt P) {t : TypeId} {x i : Operand} {xs : List (List AVal)} {o : Own} {k : IntKind} {q : Int} {e es eb : Nat} {c : List AVal} (hx : opd F x = some (.sl xs o)) (hi : opd F i = some (.sc (.int k q)))
    (ht : find tt.slc t = some (e, es, eb)) (h0 : 0 ≤ q) (hc : xs[q.toNat]? = some c) (hl : c.length = es) : Pures P n ⟨dst, .indexAddr t x i, ty, pos, af, none⟩ F (.ept c 0) := fun g a w hf => by
  have e2 := (hf.opd hi).eq_sc
  have hv := hf.opd hx
  generalize hcv : a.eval x = cv at hv
  obtain ⟨hu, inf, z, hinf, hsz, _⟩ := tk.slc ht
  obtain ⟨hq, rfl⟩ := List.getElem?_eq_some_iff.1 hc
  cases hv with
  | nil => exact absurd hq (Nat.not_lt_zero _)
  | nil' => exact absurd hq (Nat.not_lt_zero _)
  | zero => exact absurd hq (Nat.not_lt_zero _)
  | zero' => exact absurd hq (Nat.not_lt_zero _)
  | @sl _ _ b off es' cap cv h1 h2 h3 h4 h5 h6 h7 h8 =>
    have hes : es' = es := by rw [← hl]; exact (h1 _ hq).symm
    subst hes
    have hb : (q.toNat + 1) * es' ≤ xs.length * es' := Nat.mul_le_mul_right _ hq
    have hb2 : (q.toNat + 1) * es' = q.toNat * es' + es' := Nat.succ_mul _ _
    refine ⟨.pointer (some ⟨b, off + q.toNat * es' + 0, none⟩), fun w' => ?_, ?_⟩
    · have hlt : q < (xs.length : Int) := by omega
      simp [execOp, Instr.indexAt, hcv, e2, asIntOf, run_underlying hu, h0, hlt, run_sizeOf' hinf, hsz, add_plain]
    · refine .ept (fun j => cv q.toNat j) ?_ (fun j hj => h7 _ hq j hj) (fun j hj => h8 _ hq j hj)
      rcases h2 with h2 | h2
      · exact .inl h2
      · refine .inr ?_; omega
theorem pures_index_arr (tk : TTok tt P) {t : TypeId} {x i : Operand} {b off : Nat} {k : IntKind} {q : Int} {m e es : Nat} {ag : Bool} (hx : opd F x = some (.ptr b off)) (hi : opd F i = some (.sc (.int k q)))
    (ht : find tt.arr t = some (m, e)) (hs : find tt.size e = some (es, ag)) (h0 : 0 ≤ q) (h1 : q < m) : Pures P n ⟨dst, .indexAddr t x i, ty, pos, af, none⟩ F (.ptr b (off + q.toNat * es)) := fun g a w hf => by
  have e1 := (hf.opd hx).eq_ptr
  have e2 := (hf.opd hi).eq_sc
  have hu := tk.arr ht
  obtain ⟨inf, d, hinf, hsz, _⟩ := tk.size hs
  exact ⟨.pointer (some ⟨b, off + q.toNat * es, none⟩), fun w' => by simp [execOp, Instr.indexAt, e1, e2, asIntOf, run_underlying hu, Instr.sureAddr, h0, h1, run_sizeOf' hinf, hsz, add_plain], .ptr⟩
theorem pures_index_row (tk : TTok tt P) {t : TypeId} {x i : Operand} {b off m cap : Nat} {k : IntKind} {q : Int} {e es eb : Nat} (hx : opd F x = some (.row b off m cap)) (hi : opd F i = some (.sc (.int k q)))
    (ht : find tt.slc t = some (e, es, eb)) (h0 : 0 ≤ q) (h1 : q < m) : Pures P n ⟨dst, .indexAddr t x i, ty, pos, af, none⟩ F (.ptr b (off + q.toNat * es)) := fun g a w hf => by
  have hv := hf.opd hx
  generalize hcv : a.eval x = cv at hv
  have e2 := (hf.opd hi).eq_sc
  obtain ⟨hu, inf, z, hinf, hsz, _⟩ := tk.slc ht
  cases hv
  exact ⟨.pointer (some ⟨b, off + q.toNat * es, none⟩), fun w' => by simp [execOp, Instr.indexAt, hcv, e2, asIntOf, run_underlying hu, h0, h1, run_sizeOf' hinf, hsz, add_plain], .ptr⟩

/-! ### slices of slices and strings -/
/-- A bound that is there or not. -/
def bnd (F : Fr) (d : Int) : Option Operand → Option Int
  | none => some d
  | some x => match opd F x with
    | some (.sc (.int _ q)) => some q
    | _ => none
theorem bnd_some {g : Ghost} {w : World} {a : Act} (hf : FR g w n F a) {x : Operand} {d q : Int} (h : bnd F d (some x) = some q) : ∃ k, a.eval x = .int k q := by
  simp only [bnd] at h
  split at h
  · rename_i k p hp; cases h; exact ⟨k, (hf.opd hp).eq_sc⟩
  · cases h

theorem run_bound {w : World} {k : IntKind} {q : Int} {y : Nat} (c : BoundsCode) (h0 : 0 ≤ q) (h1 : q ≤ y) : (Instr.sliceBound (.int k q) y c).run P w = .ok q.toNat w := by
  simp [Instr.sliceBound, asIntOf, h0, h1]
theorem run_bounds {g : Ghost} {w : World} {a : Act} (hf : FR g w n F a) {lo hi : Option Operand} {l h : Int} {len cap : Nat} (isSl : Bool) (hl : bnd F 0 lo = some l) (hh : bnd F len hi = some h) (h0 : 0 ≤ l) (h1 : l ≤ h) (h2 : h ≤ cap) (w' : World) :
    (Instr.sliceBounds isSl len cap (lo.map a.eval) (hi.map a.eval) none).run P w' = .ok (l.toNat, h.toNat, cap) w' := by
  cases lo with
  | none =>
    simp only [bnd, Option.some.injEq] at hl
    subst hl
    cases hi with
    | none =>
      simp only [bnd, Option.some.injEq] at hh
      subst hh
      simp [Instr.sliceBounds]
    | some y =>
      obtain ⟨k, hk⟩ := bnd_some hf hh
      simp [Instr.sliceBounds, hk, run_bound _ (show 0 ≤ h by omega) h2]
  | some x =>
    obtain ⟨k, hk⟩ := bnd_some hf hl
    cases hi with
    | none =>
      simp only [bnd, Option.some.injEq] at hh
      subst hh
      simp [Instr.sliceBounds, hk, run_bound _ h0 h1]
    | some y =>
      obtain ⟨k', hk'⟩ := bnd_some hf hh
      simp [Instr.sliceBounds, hk, hk', run_bound _ (show 0 ≤ h by omega) h2, run_bound (y := h.toNat) _ h0 (by omega)]
theorem pures_slice_str (tk : TTok tt P) {t : TypeId} {x : Operand} {lo hi : Option Operand} {s : ByteArray} {l h : Int} {u : Unit} (hx : opd F x = some (.sc (.string s))) (ht : find tt.strs t = some u)
    (hl : bnd F 0 lo = some l) (hh : bnd F s.size hi = some h) (h0 : 0 ≤ l) (h1 : l ≤ h) (h2 : h ≤ s.size) : Pures P n ⟨dst, .slice t x lo hi none, ty, pos, af, none⟩ F (.sc (.string (s.extract l.toNat h.toNat))) := fun g a w hf => by
  have e1 := (hf.opd hx).eq_sc
  have hu := tk.strs ht
  refine ⟨.string (s.extract l.toNat h.toNat), fun w' => ?_, .sc trivial⟩
  have hsb := run_bounds (P := P) hf (len := s.size) (cap := s.size) false hl hh h0 h1 h2 w'
  simp [execOp, Instr.sliceAt, Instr.slice, e1, run_underlying hu, hsb]
theorem VR.sl_part {g : Ghost} {w : World} {xs : List (List AVal)} {own : Own} {cv : Value} (h : VR g w (.sl xs own) cv) {es : Nat} (he : 0 < es) (hu : Uni es xs) {l m : Nat} (h1 : l ≤ m) (h2 : m ≤ xs.length) :
    ∃ a cap, cv = .slice a xs.length cap ∧ xs.length ≤ cap ∧ VR g w (.sl ((xs.take m).drop l) .no) (.slice (if cap = l then a else a.map (·.add (l * es))) (m - l) (cap - l)) := by
  obtain ⟨a, cap, e1, hcap, hml, cs, hcs, hcl, hc⟩ := h.sl_cells he hu
  refine ⟨a, cap, e1, hcap, ?_⟩
  rcases hc with ⟨hx0, rfl, rfl, _⟩ | ⟨b, o, rfl, hcell, himm, _, _⟩
  · subst hx0
    have hl0 : l = 0 := by simp at h2; omega
    have hm0 : m = 0 := by simp at h2; omega
    subst hl0 hm0
    exact .emptyN _
  · have hr : hasRow w b (o + cap * es) ∨ xs = [] := by
      cases h with
      | @sl _ _ b' o' es' cap' cv k1 k2 k3 k4 k5 k6 k7 k8 =>
        injection e1 with e1 _ e3
        injection e1 with e1
        injection e1 with e1 e2 _
        subst e1 e2 e3
        by_cases hx : xs = []
        · exact .inr hx
        · have hpos : 0 < xs.length := List.length_pos_iff.2 hx
          have hes : es' = es := by rw [← k1 0 hpos]; exact hu.get 0 hpos
          subst hes
          exact .inl k5
      | nil => cases e1
      | nil' => cases e1
      | zero => exact .inr rfl
      | zero' => exact .inr rfl
    have hlen : ((xs.take m).drop l).length = m - l := by simp; omega
    by_cases hcl' : cap = l
    · have hm : m = l := by omega
      subst hm
      subst hcl'
      rw [if_pos rfl]
      have h0 : (xs.take cap).drop cap = [] := by simp
      rw [h0]
      cases h with
      | @sl _ _ b' o' es' cap' cv k1 k2 k3 k4 k5 k6 k7 k8 =>
        injection e1 with e1 _ e3
        injection e1 with e1
        injection e1 with e1 e2 _
        subst e1 e2 e3
        rw [Nat.sub_self]
        refine .sl (es := es') (fun _ _ => default) (fun i h => absurd h (Nat.not_lt_zero _)) ?_ (Nat.le_refl _) (Nat.zero_le _) ?_ trivial (fun i h => absurd h (Nat.not_lt_zero _)) (fun i h => absurd h (Nat.not_lt_zero _))
        · rcases k2 with k2 | k2
          · exact .inl k2
          · refine .inr ?_; simp; omega
        · obtain ⟨el, nn, q1, q2⟩ := k5
          exact ⟨el, nn, q1, by simp; omega⟩
      | nil => cases e1
      | nil' => cases e1
      | zero => rw [Nat.sub_self]; exact .zero'
      | zero' => rw [Nat.sub_self]; exact .zero'
    · rw [if_neg hcl']
      simp only [Option.map_some, add_plain]
      rcases hr with hr | hx0
      · have hu' : Uni es ((xs.take m).drop l) := (hu.take m).drop l
        rw [← hlen]
        have hfl : ((xs.take m).drop l).flatten = (xs.flatten.take (m * es)).drop (l * es) := by
          have f1 : xs.flatten = (xs.take m).flatten ++ (xs.drop m).flatten := by rw [← List.flatten_append, List.take_append_drop]
          have f2 : (xs.take m).flatten = ((xs.take m).take l).flatten ++ ((xs.take m).drop l).flatten := by rw [← List.flatten_append, List.take_append_drop]
          have l1 : (xs.take m).flatten.length = m * es := by rw [(hu.take m).len, List.length_take]; congr 1; omega
          have l2 : ((xs.take m).take l).flatten.length = l * es := by rw [((hu.take m).take l).len, List.length_take, List.length_take]; congr 1; omega
          have t1 : xs.flatten.take (m * es) = (xs.take m).flatten := by rw [f1]; exact List.take_left' l1
          rw [t1, f2]
          exact (List.drop_left' l2).symm
        have hmes : m * es ≤ xs.length * es := Nat.mul_le_mul_right _ h2
        have hlm : l * es ≤ m * es := Nat.mul_le_mul_right _ h1
        have hsub : (m - l) * es = m * es - l * es := Nat.sub_mul _ _ _
        have hcsub : (cap - l) * es = cap * es - l * es := Nat.sub_mul _ _ _
        have hlc : l * es ≤ cap * es := Nat.mul_le_mul_right _ (by omega)
        refine VR.sl_mk he hu' (cs := (cs.take (m * es)).drop (l * es)) (by rw [hfl]; exact (hcs.take _).drop _) (fun j v hv => ?_) ?_ (by omega) (by simp only [maxLen] at *; omega) ?_ trivial
        · rw [List.getElem?_drop, List.getElem?_take] at hv
          split at hv
          · have := hcell _ v hv
            rw [show o + l * es + j = o + (l * es + j) by omega]; exact this
          · cases hv
        · rcases himm with himm | himm
          · exact .inl himm
          · refine .inr ?_; rw [hlen, hsub]; omega
        · obtain ⟨el, nn, q1, q2⟩ := hr
          exact ⟨el, nn, q1, by rw [hcsub]; omega⟩
      · subst hx0
        have hl0 : l = 0 := by simp at h2; omega
        have hm0 : m = 0 := by simp at h2; omega
        subst hl0 hm0
        simp only [Nat.zero_mul, Nat.add_zero, Nat.sub_zero, List.take_nil, List.drop_nil]
        rw [e1] at h
        exact h.wk (.sl [] own)
theorem pures_slice_sl (tk : TTok tt P) {t : TypeId} {x : Operand} {lo hi : Option Operand} {xs : List (List AVal)} {o : Own} {e es eb : Nat} {l h : Int} (hx : opd F x = some (.sl xs o)) (ht : find tt.slc t = some (e, es, eb)) (hu' : Uni es xs)
    (hl : bnd F 0 lo = some l) (hh : bnd F xs.length hi = some h) (h0 : 0 ≤ l) (h1 : l ≤ h) (h2 : h ≤ xs.length) : Pures P n ⟨dst, .slice t x lo hi none, ty, pos, af, none⟩ F (.sl ((xs.take h.toNat).drop l.toNat) .no) := fun g a w hf => by
  obtain ⟨hu, inf, z, hinf, hsz, hby, hes0, heb0, hz, hzs⟩ := tk.slc ht
  have hv := hf.opd hx
  obtain ⟨ad, cap, ex, hcap, hres⟩ := hv.sl_part hes0 hu' (l := l.toNat) (m := h.toNat) (by omega) (by omega)
  have hsb := fun w' => run_bounds (P := P) hf (len := xs.length) (cap := cap) true hl hh h0 h1 (by omega) w'
  exact ⟨_, fun w' => by simp [execOp, Instr.sliceAt, Instr.slice, ex, run_underlying hu, hsb w', run_sizeOf' hinf, hsz], hres⟩
/-- s[:n:n]: what is left may be appended to. -/
theorem pures_slice_full (tk : TTok tt P) {t : TypeId} {x hi mx : Operand} {xs : List (List AVal)} {o : Own} {e es eb : Nat} {j k : IntKind} (hx : opd F x = some (.sl xs o)) (ht : find tt.slc t = some (e, es, eb)) (hu' : Uni es xs)
    (hh : opd F hi = some (.sc (.int j xs.length))) (hm : opd F mx = some (.sc (.int k xs.length))) : Pures P n ⟨dst, .slice t x none (some hi) (some mx), ty, pos, af, none⟩ F (.sl xs .full) := fun g a w hf => by
  obtain ⟨hu, inf, z, hinf, hsz, hby, hes0, heb0, hz, hzs⟩ := tk.slc ht
  have hv := hf.opd hx
  have e1 := (hf.opd hh).eq_sc
  have e2 := (hf.opd hm).eq_sc
  obtain ⟨ad, cap, ex, hcap, hml, cs, hcs, hcl, hc⟩ := hv.sl_cells hes0 hu'
  refine ⟨.slice ad xs.length xs.length, fun w' => ?_, ?_⟩
  · have hb1 := run_bound (P := P) (w := w') (k := k) (q := xs.length) (y := cap) .slice3Acap (by omega) (by omega)
    have hb2 := run_bound (P := P) (w := w') (k := j) (q := xs.length) (y := xs.length) .slice3B (by omega) (by omega)
    simp [execOp, Instr.sliceAt, Instr.slice, ex, run_underlying hu, Instr.sliceBounds, e1, e2, hb1, hb2, run_sizeOf' hinf, hsz]
    cases ad <;> simp [Addr.add]
  · rw [ex] at hv
    rcases hc with ⟨hx0, rfl, rfl, _⟩ | ⟨b, off, rfl, hcell, himm, _, _⟩
    · subst hx0
      exact .emptyF _
    · cases hv with
      | @sl _ _ _ _ es' _ cv k1 k2 k3 k4 k5 k6 k7 k8 =>
        obtain ⟨el, nn, q1, q2⟩ := k5
        have hle : xs.length * es' ≤ cap * es' := Nat.mul_le_mul_right _ hcap
        exact .sl cv k1 k2 (Nat.le_refl _) k4 ⟨el, nn, q1, by omega⟩ rfl k7 k8
      | zero => exact .zero
      | zero' => exact .zero
/-- A byte of a string. -/
theorem pures_index_str (tk : TTok tt P) {t : TypeId} {x i : Operand} {s : ByteArray} {k : IntKind} {q : Int} {u : Unit} (hx : opd F x = some (.sc (.string s))) (hi : opd F i = some (.sc (.int k q))) (ht : find tt.strs t = some u)
    (h0 : 0 ≤ q) {c : UInt8} (hc : s.data.toList[q.toNat]? = some c) : Pures P n ⟨dst, .index t x i, ty, pos, af, none⟩ F (.sc (.int .u8 c.toNat)) := fun g a w hf => by
  have e1 := (hf.opd hx).eq_sc
  have e2 := (hf.opd hi).eq_sc
  have hu := tk.strs ht
  have hc' : s[q.toNat]? = some c := by
    obtain ⟨hq, he⟩ := List.getElem?_eq_some_iff.1 hc
    have hq' : q.toNat < s.size := by rw [Array.length_toList] at hq; exact hq
    rw [getElem?_pos s q.toNat hq']
    congr 1
  refine ⟨.int .u8 c.toNat, fun w' => ?_, .sc trivial⟩
  have h1 : (Instr.index t (.string s) (.int k q)).run P w' = .ok (.int .u8 c.toNat) w' := by
    unfold Instr.index
    rw [Sem.run_bind]
    simp only [asIntOf, Sem.run_pure, Result.andThen_ok]
    rw [Sem.run_bind, run_underlying hu]
    simp only [Result.andThen_ok, if_pos h0, hc']
    rfl
  simp only [execOp, e1, e2, Sem.run_bind, h1, Result.andThen_ok, Sem.run_pure]

/-! ### slices and structs that are written out -/
def rowsOf : List AVal → Option (List (List AVal))
  | [] => some []
  | v :: vs => match cellsOf v, rowsOf vs with | some x, some xs => some (x :: xs) | _, _ => none
theorem fold_set (vs : List Value) (k off : Nat) (cs : Array Value) (h : off + k + vs.length ≤ cs.size) :
      ((vs.zipIdx k).foldl (fun c (p : Value × Nat) => c.setIfInBounds (off + p.2) p.1) cs).toList = cs.toList.take (off + k) ++ vs ++ cs.toList.drop (off + k + vs.length) := by
  induction vs generalizing k cs with
  | nil => simp
  | cons v vs ih =>
    simp only [List.zipIdx_cons, List.foldl_cons]
    rw [ih (k + 1) (cs.setIfInBounds (off + k) v) (by simp at h ⊢; omega)]
    have := list_seg_step cs.toList (off + k) v vs (by simp at h ⊢; omega)
    simpa [Array.toList_setIfInBounds, Nat.add_assoc] using this
/-- The model's 'fill', on lists of cells. -/
theorem fill_step {place : Nat → Option (Nat × Nat)} {cells : Array Value} {i off sz : Nat} {v : Value} {rest : List (Nat × Value)} (hp : place i = some (off, sz)) (hs : v.cells.size = sz) (hl : off + sz ≤ cells.size) :
    Instr.fill place cells ((i, v) :: rest) = Instr.fill place (cells.toList.take off ++ v.cells.toList ++ cells.toList.drop (off + sz)).toArray rest := by
  simp only [Instr.fill, hp]
  have h1 : (v.cells.size ≠ sz || off + v.cells.size > cells.size) = false := by simp [hs]; omega
  rw [h1]
  simp only [Bool.false_eq_true, if_false]
  congr 1
  have h2 := fold_set v.cells.toList 0 off cells (by simp [hs]; omega)
  have h3 : v.cells.zipIdx.foldl (fun cs (x : Value × Nat) => cs.setIfInBounds (off + x.2) x.1) cells = (v.cells.toList.zipIdx 0).foldl (fun c (p : Value × Nat) => c.setIfInBounds (off + p.2) p.1) cells := by
    rw [← Array.foldl_toList]; simp
  apply Array.ext'
  simp only [Nat.add_zero, Array.length_toList, hs] at h2
  rw [← h2, ← h3]

/-- A struct's parts, put into its zero value. -/
def fillA (tt : TT) (fs : List (Nat × Nat)) : List AVal → List (Nat × AVal) → Option (List AVal)
  | cs, [] => some cs
  | cs, (i, v) :: rest => match fs[i]?, cellsOf v with
    | some (t, off), some vs => match find tt.size t with
      | some (k, _) => bif Nat.beq vs.length k && Nat.ble (off + k) cs.length then fillA tt fs (cs.take off ++ vs ++ cs.drop (off + k)) rest else none
      | none => none
    | _, _ => none
def partsA (F : Fr) : List (Nat × Operand) → Option (List (Nat × AVal))
  | [] => some []
  | (i, x) :: l => match opd F x, partsA F l with | some v, some r => some ((i, v) :: r) | _, _ => none
theorem partsA_ok {g : Ghost} {w : World} {a : Act} (hf : FR g w n F a) : ∀ {l : List (Nat × Operand)} {r : List (Nat × AVal)}, partsA F l = some r → r.map (·.1) = l.map (·.1) ∧ ∀ j (h : j < r.length) (h' : j < l.length), VR g w r[j].2 (a.eval l[j].2)
  | [], r, h => by cases h; exact ⟨rfl, fun j h => absurd h (Nat.not_lt_zero _)⟩
  | (i, x) :: l, r, h => by
    simp only [partsA] at h
    split at h
    · rename_i v r' hx hr
      cases h
      obtain ⟨h1, h2⟩ := partsA_ok hf hr
      refine ⟨by simp [h1], fun j hj hj' => ?_⟩
      cases j with
      | zero => exact hf.opd hx
      | succ j => exact h2 j (by simpa using hj) (by simpa using hj')
    · cases h
theorem fillA_ok (tk : TTok tt P) {g : Ghost} {w : World} {a : Act} {fs : List (Nat × Nat)} {place : Nat → Option (Nat × Nat)} (hpl : ∀ (i t off k : Nat) (ag : Bool), fs[i]? = some (t, off) → find tt.size t = some (k, ag) → place i = some (off, k)) :
    ∀ {l : List (Nat × Operand)} {r : List (Nat × AVal)} {cs : List AVal} {cc : Array Value} {out : List AVal}, r.map (·.1) = l.map (·.1) → (∀ j (h : j < r.length) (h' : j < l.length), VR g w r[j].2 (a.eval l[j].2)) → VRs g w cs cc.toList →
      fillA tt fs cs r = some out → ∃ oc : Array Value, Instr.fill place cc (l.map fun p => (p.1, a.eval p.2)) = some oc ∧ VRs g w out oc.toList
  | [], r, cs, cc, out, h1, h2, h3, h => by
    have : r = [] := by simpa using h1
    subst this
    cases h
    exact ⟨cc, rfl, h3⟩
  | (i, x) :: l, r, cs, cc, out, h1, h2, h3, h => by
    cases r with
    | nil => simp at h1
    | cons p r =>
      obtain ⟨i', v⟩ := p
      simp only [List.map_cons, List.cons.injEq] at h1
      obtain ⟨rfl, h1⟩ := h1
      simp only [fillA] at h
      split at h
      · rename_i t off vs hfi hcv
        split at h
        · rename_i k ag hk
          cases hb : (Nat.beq vs.length k && Nat.ble (off + k) cs.length) with
          | false => rw [hb] at h; cases h
          | true =>
            rw [hb] at h
            simp only [Bool.and_eq_true] at hb
            have hk1 := Nat.eq_of_beq_eq_true hb.1
            have hk2 := Nat.le_of_ble_eq_true hb.2
            have hv0 : VR g w v (a.eval x) := h2 0 (by simp) (by simp)
            have hvc := hv0.cellsOf hcv
            have hsz : (a.eval x).cells.size = k := by have := hvc.1; simp at this; omega
            have hcl := h3.1
            simp only [List.map_cons]
            rw [fill_step (hpl i' t off k ag hfi hk) hsz (by simp at hcl; omega)]
            exact fillA_ok tk hpl h1 (fun j hj hj' => h2 (j + 1) (by simpa using hj) (by simpa using hj')) (by simpa using ((h3.take off).append hvc).append (h3.drop (off + k))) h
        · cases h
      · cases h
theorem mapM_run {α β : Type} {f : α → Sem β} {h : α → β} {w : World} : ∀ {l : List α}, (∀ x, x ∈ l → (f x).run P w = .ok (h x) w) → (l.mapM f).run P w = .ok (l.map h) w
  | [], _ => rfl
  | x :: l, hx => by
    rw [List.mapM_cons]
    simp [hx x List.mem_cons_self, mapM_run fun y hy => hx y (List.mem_cons_of_mem _ hy)]
/-- A struct, written out. -/
theorem pures_build (tk : TTok tt P) {t : TypeId} {parts : Array (Nat × Operand)} {fs : List (Nat × Nat)} {zs : List Value} {cs out : List AVal} {r : List (Nat × AVal)} (hfs : find tt.flds t = some fs) (hz : find tt.zero t = some zs) (hc : absL zs = some cs)
    (hr : partsA F parts.toList = some r) (ho : fillA tt fs cs r = some out) : Pures P n ⟨dst, .build t parts, ty, pos, af, none⟩ F (.agg out) := fun g a w hf => by
  obtain ⟨fds, h1, h2, h3⟩ := tk.flds hfs
  obtain ⟨i, v, hi, hzv, hzs⟩ := tk.zero hz
  obtain ⟨p1, p2⟩ := partsA_ok hf hr
  let sz : Field → Nat := fun f => ((P.info? f.type).map (·.size)).getD 0
  have hsz : ∀ f, f ∈ fds.toList → ∀ w', (sizeOf f.type).run P w' = .ok (sz f) w' := fun f hfm w' => by
    obtain ⟨inf, hinf, _⟩ := h3 f hfm
    rw [run_sizeOf' hinf]
    simp [sz, hinf]
  have hpl : ∀ (i t off k : Nat) (ag : Bool), fs[i]? = some (t, off) → find tt.size t = some (k, ag) → (fds.map fun f => (f.offset, sz f))[i]? = some (off, k) := fun i t off k ag hfi hk => by
    rw [← h2] at hfi
    simp only [List.getElem?_map, Option.map_eq_some_iff] at hfi
    obtain ⟨fd, hfd, he⟩ := hfi
    cases he
    obtain ⟨inf, d, hinf, hk', _⟩ := tk.size hk
    have : fds[i]? = some fd := by simpa using hfd
    simp [this, sz, hinf, hk']
  obtain ⟨oc, ho1, ho2⟩ := fillA_ok tk (a := a) hpl p1 p2 (cc := v.cells) (by rw [hzs]; exact absL_ok hc) ho
  refine ⟨.agg oc, fun w' => ?_, .agg ho2.arr.1 ho2.arr.2⟩
  have hmap : (fds.mapM fun f => do pure (f.offset, ← sizeOf f.type) : Sem (Array (Nat × Nat))).run P w' = .ok (fds.map fun f => (f.offset, sz f)) w' := by
    rw [Array.mapM_eq_mapM_toList]
    have := mapM_run (P := P) (w := w') (l := fds.toList) (f := fun f => (do pure (f.offset, ← sizeOf f.type) : Sem (Nat × Nat))) (h := fun f => (f.offset, sz f)) (fun f hfm => by simp [hsz f hfm w'])
    rw [Sem.run_map, this]
    simp [← Array.toList_map]
  simp only [execOp, Instr.build, Sem.run_bind, run_zeroValue' hi hzv, Result.andThen_ok, run_underlying h1, hmap]
  have hl : (parts.map fun x => (x.1, a.eval x.2)).toList = parts.toList.map fun p => (p.1, a.eval p.2) := by simp
  have ho1' : Instr.fill (fun x => (fds.map fun f => (f.offset, sz f))[x]?) v.cells (parts.map fun x => (x.1, a.eval x.2)).toList = some oc := by rw [hl]; exact ho1
  rw [ho1']
  rfl
end
end Abs
end Go.Proofs.Ytmokoofibnoojaa
