import Derived.Test.YtmokoofibnoojaaA8
set_option linter.unusedVariables false
namespace Go.Proofs.Ytmokoofibnoojaa
namespace Abs

section
variable {P : Program} {tt : TT} {n : Nat} {ops : Array Oper} {rest : List Oper} {F : Fr} {H : AHeap} {dst : Option Tmp} {ty : TypeId} {pos : String} {af : Array Edge} {K : APost}

theorem equal_slice {t e : TypeId} (hu : P.underlying t = some (.slice e)) (a : Option Addr) (m c : Nat) (w : World) : (Op.equal t (.slice a m c) (.slice none 0 0)).run P w = .ok a.isNone w := by
  have h : ∀ d, (Op.equalIn (d + 1) t (.slice a m c) (.slice none 0 0)).run P w = .ok a.isNone w := fun d => by
    cases a <;> simp [Op.equalIn, run_underlying hu] <;> rfl
  exact h 9999
theorem VR.sl_form {g : Ghost} {w : World} {xs : List (List AVal)} {o : Own} {cv : Value} (hv : VR g w (.sl xs o) cv) : ∃ ad m c, cv = .slice ad m c ∧ (ad.isNone = true → xs = []) := by
  cases hv with
  | nil => exact ⟨_, _, _, rfl, fun _ => rfl⟩
  | nil' => exact ⟨_, _, _, rfl, fun _ => rfl⟩
  | zero => exact ⟨_, _, _, rfl, fun _ => rfl⟩
  | zero' => exact ⟨_, _, _, rfl, fun _ => rfl⟩
  | sl _ _ _ _ _ _ _ _ _ => exact ⟨_, _, _, rfl, fun h => by cases h⟩
/-- s == nil: nobody knows, but a nil slice is empty. -/
theorem s_slnil (tk : TTok tt P) {t yt : TypeId} {x : Operand} {xs : List (List AVal)} {o : Own} {e : Nat × Nat × Nat} (hd : dstOk n dst = true) (hx : opd F x = some (.sl xs o)) (ht : find tt.slc t = some e)
    (hK : ∀ b : Bool, (b = true → xs = []) → AOps P n ops rest (F.put dst (.sc (.bool b))) H K) : AOps P n ops (⟨dst, .binOp .eql t x (.const (.slice none 0 0)) yt, ty, pos, af, none⟩ :: rest) F H K :=
  AOps_cons (op_of_value hd fun g a w hi hf => by
    obtain ⟨hu, _⟩ := tk.slc (e := e.1) (es := e.2.1) (eb := e.2.2) ht
    obtain ⟨ad, m, c, hcv, hnil⟩ := (hf.opd hx).sl_form
    refine ⟨.bool ad.isNone, w, g, .sc (.bool ad.isNone), H, ?_, Ext.refl _ _, hi, .sc trivial, hK _ hnil⟩
    show (do let v ← (do eqGuard .eql t x (.const (.slice none 0 0)) (a.eval x) (.slice none 0 0); binOp .eql t (a.eval x) (.slice none 0 0) : Sem Value); pure (Next.value v) : Sem Next).run P w = _
    rw [hcv]
    show (do let v ← (do pure PUnit.unit; pure (.bool (← Op.equal t (.slice ad m c) (.slice none 0 0))) : Sem Value); pure (Next.value v) : Sem Next).run P w = _
    simp [equal_slice hu])

theorem fill_rows {es : Nat} (hes : 0 < es) : ∀ {l : List (Nat × Value)} {k m : Nat} {cells : Array Value}, (∀ j (h : j < l.length), l[j].1 = k + j ∧ l[j].2.cells.size = es) → k + l.length ≤ m → cells.size = m * es →
    ∃ oc : Array Value, Instr.fill (fun i => some (i * es, es)) cells l = some oc ∧ oc.toList = cells.toList.take (k * es) ++ (l.map fun p => p.2.cells.toList).flatten ++ cells.toList.drop ((k + l.length) * es)
  | [], k, m, cells, _, hm, hc => ⟨cells, rfl, by simp⟩
  | (i, v) :: l, k, m, cells, hl, hm, hc => by
    have h0 := hl 0 (by simp)
    simp only [List.getElem_cons_zero, Nat.add_zero] at h0
    obtain ⟨rfl, hv⟩ := h0
    have hm1 : (i + 1) * es ≤ m * es := Nat.mul_le_mul_right _ (by simp at hm; omega)
    have hs : (i + 1) * es = i * es + es := Nat.succ_mul i es
    rw [fill_step (off := i * es) (sz := es) rfl hv (by omega)]
    obtain ⟨oc, h1, h2⟩ := fill_rows hes (l := l) (k := i + 1) (m := m) (cells := (cells.toList.take (i * es) ++ v.cells.toList ++ cells.toList.drop (i * es + es)).toArray) (fun j hj => by
      have := hl (j + 1) (by simpa using hj)
      simp only [List.getElem_cons_succ] at this
      exact ⟨by omega, this.2⟩) (by simp at hm ⊢; omega) (by simp [hv]; omega)
    refine ⟨oc, h1, ?_⟩
    rw [h2]
    have hvl : v.cells.toList.length = es := by simpa using hv
    have htl : (cells.toList.take (i * es)).length = i * es := by simp; omega
    have hpre : (cells.toList.take (i * es) ++ v.cells.toList ++ cells.toList.drop (i * es + es)).take ((i + 1) * es) = cells.toList.take (i * es) ++ v.cells.toList := List.take_left' (by simp only [List.length_append, htl, hvl]; omega)
    have hpost : (cells.toList.take (i * es) ++ v.cells.toList ++ cells.toList.drop (i * es + es)).drop ((i + 1 + l.length) * es) = cells.toList.drop ((i + (l.length + 1)) * es) := by
      have e1 : (i + 1 + l.length) * es = (cells.toList.take (i * es) ++ v.cells.toList).length + l.length * es := by
        simp only [List.length_append, htl, hvl]; rw [Nat.add_mul, hs]
      rw [e1, ← List.drop_drop, List.drop_left' rfl, List.drop_drop]
      congr 1
      rw [show i + (l.length + 1) = (i + 1) + l.length by omega, Nat.add_mul, hs]
    rw [List.toList_toArray, hpre, hpost]
    simp

/-- The parts' places: one behind the other. -/
def inRow : Nat → List (Nat × Operand) → Bool
  | _, [] => true
  | k, (i, _) :: l => Nat.beq i k && inRow (k + 1) l
/-- []T{a, b, ..} -/
theorem s_bslice (tk : TTok tt P) {t : TypeId} {len : Nat} {parts : Array (Nat × Operand)} {e es eb : Nat} {vs : List AVal} {rows : List (List AVal)} (hd : dstOk n dst = true) (ht : find tt.slc t = some (e, es, eb))
    (hp : inRow 0 parts.toList = true) (hvs : opds F (parts.toList.map (·.2)) = some vs) (hr : rowsOf vs = some rows) (hlen : rows.length = len) (hu : Uni es rows) (hsmall : len * es ≤ 16777216)
    (hK : AOps P n ops rest (F.put dst (.sl rows .full)) H K) : AOps P n ops (⟨dst, .buildSlice t len parts, ty, pos, af, none⟩ :: rest) F H K :=
  AOps_cons (op_of_value hd fun g a w hi hf => by
    obtain ⟨hu', inf, z, hinf, hsz, hby, hes0, heb0, hz, hzs⟩ := tk.slc ht
    obtain ⟨l1, l2⟩ := hf.opds hvs
    have hinr : ∀ (l : List (Nat × Operand)) (k : Nat), inRow k l = true → ∀ j (h : j < l.length), l[j].1 = k + j := by
      intro l
      induction l with
      | nil => intro k _ j h; simp at h
      | cons p l ih =>
        intro k h j hj
        obtain ⟨i, x⟩ := p
        simp only [inRow, Bool.and_eq_true] at h
        have h1 := Nat.eq_of_beq_eq_true h.1
        cases j with
        | zero => simpa using h1
        | succ j => have := ih (k + 1) h.2 j (by simpa using hj); simp only [List.getElem_cons_succ]; omega
    have hrows : ∀ (vs : List AVal) (rows : List (List AVal)), rowsOf vs = some rows → rows.length = vs.length ∧ ∀ j (h : j < rows.length) (h' : j < vs.length), cellsOf vs[j] = some rows[j] := by
      intro vs
      induction vs with
      | nil => intro rows h; cases h; exact ⟨rfl, fun j h => absurd h (Nat.not_lt_zero _)⟩
      | cons v vs ih =>
        intro rows h
        simp only [rowsOf] at h
        split at h
        · rename_i x xs hx hxs
          cases h
          obtain ⟨q1, q2⟩ := ih xs hxs
          refine ⟨by simp [q1], fun j h h' => ?_⟩
          cases j with
          | zero => exact hx
          | succ j => exact q2 j (by simpa using h) (by simpa using h')
        · cases h
    obtain ⟨r1, r2⟩ := hrows vs rows hr
    have hpl : parts.toList.length = len := by simp at l1; simp; omega
    have hvr : ∀ j (h : j < rows.length) (h' : j < parts.toList.length), VRs g w rows[j] (a.eval parts.toList[j].2).cells.toList := fun j h h' => by
      have := l2 j (by omega) (by simpa using h')
      simp only [List.getElem_map] at this
      exact this.cellsOf (r2 j h (by omega))
    have hz0 : (Array.range (len * es)).map (z.cells[· % z.cells.size]!) = (Array.range (len * es)).map (z.cells[· % z.cells.size]!) := rfl
    obtain ⟨oc, o1, o2⟩ := fill_rows hes0 (l := parts.toList.map fun p => (p.1, a.eval p.2)) (k := 0) (m := len) (cells := (Array.range (len * es)).map (fun i => (if len * es = 0 then #[] else z.cells)[i % (if len * es = 0 then #[] else z.cells).size]!)) (fun j hj => by
      simp only [List.getElem_map]
      simp only [List.length_map] at hj
      have h1 := hinr parts.toList 0 hp j hj
      have h2 := (hvr j (by omega) hj).1
      have h3 := hu.get j (by omega)
      exact ⟨h1, by have h4 := Array.length_toList (xs := (a.eval parts.toList[j].2).cells); show (a.eval parts.toList[j].2).cells.size = es; omega⟩) (by simp only [List.length_map]; omega) (by simp)
    have hflat : VRs g w rows.flatten oc.toList := by
      have hdrop : oc.toList = ((parts.toList.map fun p => (p.1, a.eval p.2)).map fun p => p.2.cells.toList).flatten := by
        rw [o2]
        simp only [Nat.zero_mul, List.take_zero, List.nil_append, Nat.zero_add, List.length_map]
        rw [List.drop_of_length_le (by simp [hpl]), List.append_nil]
      rw [hdrop]
      have gen : ∀ (rows : List (List AVal)) (l : List (List Value)), rows.length = l.length → (∀ j (h : j < rows.length) (h' : j < l.length), VRs g w rows[j] l[j]) → VRs g w rows.flatten l.flatten := by
        intro rows
        induction rows with
        | nil => intro l h _; have : l = [] := List.eq_nil_of_length_eq_zero h.symm; subst this; exact .nil
        | cons x rows ih =>
          intro l h hj
          cases l with
          | nil => simp at h
          | cons y l =>
            simp only [List.flatten_cons]
            exact (hj 0 (by simp) (by simp)).append (ih l (by simpa using h) (fun j a b => hj (j + 1) (by simpa using a) (by simpa using b)))
      refine gen rows _ (by simp only [List.length_map]; omega) (fun j h h' => ?_)
      simp only [List.getElem_map]
      exact hvr j h (by simpa using h')
    have hfr := hi.fresh _ (Nat.le_refl w.heap.size)
    have hext1 := ext_alloc hi.base_le hfr.1 hfr.2 (Obj.cells oc e)
    have hi1 : Inv g (w.alloc (.cells oc e)) H := ⟨by have := hi.base_le; simp; omega, fun k hk => hi.fresh k (by simp at hk; omega), fun k o hk => ⟨(hi.obj k o hk).1, (hi.obj k o hk).2.alloc hext1⟩⟩
    have hi2 := inv_seal (e := rows.length * es) hi1 (by omega) (by simp) (hi.none (Nat.le_refl _))
    have hext := hext1.trans (ext_seal (b := w.heap.size) (e := rows.length * es) (by omega))
    refine ⟨.slice (some ⟨w.heap.size, 0, none⟩) rows.length rows.length, _, _, .sl rows .full, H, ?_, hext, hi2, ?_, hK⟩
    · have hns : ¬ (16777216 < len * es) := by omega
      have o1' : ∀ zc : Array Value, zc = (if len * es = 0 then #[] else z.cells) → Instr.fill (fun i => some (i * es, es)) ((Array.range (len * es)).map (zc[· % zc.size]!)) (parts.map fun x => (x.1, a.eval x.2)).toList = some oc := by
        rintro _ rfl
        rw [Array.toList_map]; exact o1
      simp only [execOp, Instr.buildSlice, Sem.run_bind, run_underlying hu', Result.andThen_ok, run_sizeOf' hinf, hsz]
      rw [Sem.run_ite, if_neg (by simpa using hns)]
      by_cases h0 : len * es = 0
      · have o2' := o1' #[] (by rw [if_pos h0])
        rw [if_pos h0]
        simp only [Sem.run_bind, Sem.run_pure, Result.andThen_ok]
        rw [o2']
        simp [newRow, hlen]
      · have o2' := o1' z.cells (by rw [if_neg h0])
        rw [if_neg h0]
        simp only [Sem.run_bind, Sem.run_pure, Result.andThen_ok, run_zeroValue' hinf hz]
        rw [o2']
        simp [newRow, hlen]
    · refine VR.sl_mk hes0 hu (hflat.mono hext) (fun j v hv => ?_) (by rw [Nat.zero_add]; exact imm_seal _ _ _) (Nat.le_refl _) ?_ ⟨e, oc.size, by unfold World.shape?; rw [heap_alloc_new], ?_⟩ rfl
      · rw [Nat.zero_add, cell_of_row _ _ j _ e (0, 0) (heap_alloc_new w _)]
        simpa using hv
      · have h4 : rows.length ≤ rows.length * es := Nat.le_mul_of_pos_right _ hes0
        simp only [maxLen]
        rw [hlen] at h4 ⊢
        omega
      · have h5 := hflat.1
        rw [hu.len, Array.length_toList] at h5
        exact Nat.le_of_eq (by rw [Nat.zero_add]; exact h5))

theorem flatten_single {α : Type} (f : α → AVal) : ∀ l : List α, (l.map fun c => [f c]).flatten = l.map f
  | [] => rfl
  | c :: l => by simp only [List.map_cons, List.flatten_cons, flatten_single f l]; rfl
/-- string(b) -/
theorem s_str (tk : TTok tt P) {t d : TypeId} {x : Operand} {s : ByteArray} {o : Own} {e : Nat} {eb : Nat} {u : Unit} (hd : dstOk n dst = true) (hx : opd F x = some (.sl (s.data.toList.map fun c => [.sc (.int .u8 c.toNat)]) o)) (ht : find tt.slc t = some (e, 1, eb)) (he : find tt.ints e = some .u8) (hs : find tt.strs d = some u)
    (hK : AOps P n ops rest (F.put dst (.sc (.string s))) H K) : AOps P n ops (⟨dst, .convert t d x, ty, pos, af, none⟩ :: rest) F H K :=
  AOps_cons (op_of_value hd fun g a w hi hf => by
    obtain ⟨hu, inf, z, hinf, hsz, hby, hes0, heb0, hz, hzs⟩ := tk.slc ht
    have hv := hf.opd hx
    have huni : Uni 1 (s.data.toList.map fun c => [AVal.sc (.int .u8 c.toNat)]) := fun y hy => by obtain ⟨c, _, rfl⟩ := List.mem_map.1 hy; rfl
    obtain ⟨ad, cap, hcv, _, _, cs, hcs, hcl, hc⟩ := hv.sl_cells hes0 huni
    have hstr : strOfNums (s.data.toList.map fun c => (c.toNat : Int)) = s := by
      have : (s.data.toList.map fun c => (c.toNat : Int)).map (fun n => UInt8.ofNat n.toNat) = s.data.toList := by
        rw [List.map_map]
        have : ((fun n : Int => UInt8.ofNat n.toNat) ∘ fun c : UInt8 => (c.toNat : Int)) = id := by funext c; simp
        rw [this, List.map_id]
      simp only [strOfNums, this]
    refine ⟨.string s, w, g, .sc (.string s), H, ?_, Ext.refl _ _, hi, .sc trivial, hK⟩
    have hcells : ∀ j, j < s.data.toList.length → ∀ b o', ad = some ⟨b, o', none⟩ → (∀ j v, cs[j]? = some v → w.cell? ⟨b, o' + j, none⟩ = some v) → w.cell? ⟨b, o' + j, none⟩ = some (.int .u8 ((s.data.toList.map fun c => (c.toNat : Int)).getD j 0)) := fun j hj b o' _ hcc => by
      have hl := hcs.1
      have hfl : (s.data.toList.map fun c => [AVal.sc (.int .u8 c.toNat)]).flatten = s.data.toList.map fun c => AVal.sc (.int .u8 c.toNat) := flatten_single _ _
      rw [hfl] at hcs
      have hl := hcs.1
      simp only [List.length_map] at hl
      have h1 := hcs.2 j (by simpa using hj) (by omega)
      simp only [List.getElem_map] at h1
      have h2 := h1.eq_sc
      have := hcc j _ (List.getElem?_eq_getElem (by omega))
      rw [this, h2, List.getD_eq_getElem?_getD, List.getElem?_map, List.getElem?_eq_getElem hj]
      rfl
    have hconv : (convert t d (a.eval x)).run P w = .ok (.string s) w := by
      rw [hcv]
      rcases hc with ⟨hx0, hcs0, _, _⟩ | ⟨b, o', rfl, hcc, _⟩
      · have : s = ByteArray.empty := by
          subst hcs0
          simpa using hcl.symm
        rw [this]
        have hl0 : ((ByteArray.empty).data.toList.map fun c => [AVal.sc (.int .u8 c.toNat)]).length = 0 := rfl
        rw [hl0]
        cases ad with
        | none => exact run_convert_bytes_nil w t e hu (tk.ints he) _ _ d (tk.strs hs)
        | some a0 =>
          have hl := run_loadCells_list (P := P) w a0 [] (fun j v hv => by simp at hv)
          rw [run_convert_bytes_string w t d e _ 0 cap hu (tk.ints he) (tk.strs hs), run_bytesToString w _ 0 cap [] hl]
          rfl
      · have := run_convert_bytes_arg (P := P) w t e hu (tk.ints he) b o' (s.data.toList.map fun c => [AVal.sc (.int .u8 c.toNat)]).length cap (s.data.toList.map fun c => (c.toNat : Int)) (by simp) (fun j hj => hcells j (by rw [List.length_map] at hj; exact hj) b o' rfl hcc) d (tk.strs hs)
        rw [hstr] at this
        exact this
    simp only [execOp, Sem.run_bind, hconv, Result.andThen_ok, Sem.run_pure])
end
end Abs
end Go.Proofs.Ytmokoofibnoojaa
