import Derived.Test.YtmokoofibnoojaaA1
import Derived.Laws.Rows
import Derived.Laws.CopyRow
import Derived.ChangeKeysEq
set_option linter.unusedVariables false
namespace Go.Proofs.Ytmokoofibnoojaa
namespace Abs
open Go.RowKit

/-! ### A table of the types, as far as the code asks for them -/
def find {α : Type} : List (Nat × α) → Nat → Option α
  | [], _ => none
  | (d, v) :: l, t => bif Nat.beq d t then some v else find l t
theorem find_mem {α : Type} : ∀ {l : List (Nat × α)} {t : Nat} {v : α}, find l t = some v → (t, v) ∈ l
  | (d, u) :: l, t, v, h => by
    simp only [find] at h
    cases hx : Nat.beq d t with
    | true => rw [hx] at h; cases h; rw [Nat.eq_of_beq_eq_true hx]; exact List.mem_cons_self
    | false => rw [hx] at h; exact List.mem_cons_of_mem _ (find_mem h)

structure TT where
  size : List (Nat × Nat × Bool)
  flds : List (Nat × List (Nat × Nat))
  arr : List (Nat × Nat × Nat)
  slc : List (Nat × Nat × Nat × Nat)
  zero : List (Nat × List Value)
  ints : List (Nat × IntKind)
  ptrs : List (Nat × Unit)
  fns : List (Nat × Unit)
  strs : List (Nat × Unit)
  bools : List (Nat × Unit)
  maps : List (Nat × Nat × Nat)

def aggD : TypeDesc → Bool
  | .struct _ | .array _ _ => true
  | _ => false

def ttCheck (tt : TT) (P : Program) : Bool :=
  (tt.size.all fun e => (match P.info? e.1 with | some i => i.size == e.2.1 | none => false) && (match P.underlying e.1 with | some d => aggD d == e.2.2 | none => false)) &&
  ((tt.flds.all fun e => match P.underlying e.1 with | some (.struct fs) => (fs.toList.map fun f => (f.type, f.offset)) == e.2 && fs.toList.all (fun f => match P.info? f.type with | some i => i.size != 0 | none => false) | _ => false) &&
  ((tt.arr.all fun e => match P.underlying e.1 with | some (.array n d) => n == e.2.1 && d == e.2.2 | _ => false) &&
  ((tt.slc.all fun e => match P.underlying e.1 with | some (.slice d) => d == e.2.1 && (match P.info? d with | some i => (i.size == e.2.2.1 && i.bytes == e.2.2.2) && ((i.size != 0 && i.bytes != 0) && match i.zero with | some z => z.cells.size == i.size | none => false) | none => false) | _ => false) &&
  ((tt.ints.all fun e => match P.underlying e.1 with | some (.int k) => k == e.2 | _ => false) &&
  ((tt.ptrs.all fun e => match P.underlying e.1 with | some (.pointer _) => true | _ => false) &&
  ((tt.fns.all fun e => match P.underlying e.1 with | some (.func _ _ _) => true | _ => false) &&
  ((tt.strs.all fun e => match P.underlying e.1 with | some .string => true | _ => false) &&
  ((tt.bools.all fun e => match P.underlying e.1 with | some .bool => true | _ => false) &&
  (tt.maps.all fun e => match P.underlying e.1 with | some (.map k d) => k == e.2.1 && d == e.2.2 | _ => false)))))))))

/-- The zero values, each by its own equation (values have no decided equality). -/
def zerosOk (P : Program) : List (Nat × List Value) → Prop
  | [] => True
  | (t, zs) :: l => ((P.info? t).map fun i => i.zero.map fun v => v.cells.toList) = some (some zs) ∧ zerosOk P l
theorem zerosOk_find {P : Program} : ∀ {l : List (Nat × List Value)}, zerosOk P l → ∀ {t : Nat} {zs : List Value}, find l t = some zs → ((P.info? t).map fun i => i.zero.map fun v => v.cells.toList) = some (some zs)
  | (d, u) :: l, h, t, zs, hf => by
    simp only [find] at hf
    cases hx : Nat.beq d t with
    | true => rw [hx] at hf; cases hf; rw [← Nat.eq_of_beq_eq_true hx]; exact h.1
    | false => rw [hx] at hf; exact zerosOk_find h.2 hf

structure TTok (tt : TT) (P : Program) : Prop where
  chk : ttCheck tt P = true
  zro : zerosOk P tt.zero

section
variable {P : Program} {tt : TT}

theorem TTok.size (h : TTok tt P) {t k : Nat} {ag : Bool} (hf : find tt.size t = some (k, ag)) : ∃ i d, P.info? t = some i ∧ i.size = k ∧ P.underlying t = some d ∧ aggD d = ag := by
  have hc := h.chk
  simp only [ttCheck, Bool.and_eq_true, List.all_eq_true] at hc
  have := hc.1 _ (find_mem hf)
  simp only at this
  obtain ⟨h1, h2⟩ := this
  split at h1
  · rename_i i hi
    split at h2
    · rename_i d hd; exact ⟨i, d, hi, by simpa using h1, hd, by simpa using h2⟩
    · cases h2
  · cases h1
theorem TTok.flds (h : TTok tt P) {t : Nat} {l : List (Nat × Nat)} (hf : find tt.flds t = some l) : ∃ fs, P.underlying t = some (.struct fs) ∧ (fs.toList.map fun f => (f.type, f.offset)) = l ∧ ∀ f ∈ fs.toList, ∃ i, P.info? f.type = some i ∧ i.size ≠ 0 := by
  have hc := h.chk
  simp only [ttCheck, Bool.and_eq_true, List.all_eq_true] at hc
  have := hc.2.1 _ (find_mem hf)
  simp only at this
  split at this
  · rename_i fs hd
    simp only [Bool.and_eq_true, List.all_eq_true] at this
    refine ⟨fs, hd, by simpa using this.1, fun f hf => ?_⟩
    have h3 := this.2 f hf
    split at h3
    · rename_i i hi; exact ⟨i, hi, by simpa using h3⟩
    · cases h3
  · cases this
theorem TTok.arr (h : TTok tt P) {t n e : Nat} (hf : find tt.arr t = some (n, e)) : P.underlying t = some (.array n e) := by
  have hc := h.chk
  simp only [ttCheck, Bool.and_eq_true, List.all_eq_true] at hc
  have := hc.2.2.1 _ (find_mem hf)
  simp only at this
  split at this
  · rename_i n' d' hd; simp only [Bool.and_eq_true, beq_iff_eq] at this; rw [hd, this.1, this.2]
  · cases this
theorem TTok.slc (h : TTok tt P) {t e es eb : Nat} (hf : find tt.slc t = some (e, es, eb)) : P.underlying t = some (.slice e) ∧ ∃ i z, P.info? e = some i ∧ i.size = es ∧ i.bytes = eb ∧ 0 < es ∧ 0 < eb ∧ i.zero = some z ∧ z.cells.size = es := by
  have hc := h.chk
  simp only [ttCheck, Bool.and_eq_true, List.all_eq_true] at hc
  have := hc.2.2.2.1 _ (find_mem hf)
  simp only at this
  split at this
  · rename_i d hd
    simp only [Bool.and_eq_true, beq_iff_eq] at this
    obtain ⟨h1, h2⟩ := this
    subst h1
    refine ⟨hd, ?_⟩
    split at h2
    · rename_i i hi
      simp only [Bool.and_eq_true, beq_iff_eq, bne_iff_ne] at h2
      obtain ⟨⟨h3, h4⟩, ⟨h5, h6⟩, h7⟩ := h2
      split at h7
      · rename_i z hz; exact ⟨i, z, hi, h3, h4, by omega, by omega, hz, by rw [← h3]; simpa using h7⟩
      · cases h7
    · cases h2
  · cases this
theorem TTok.ints (h : TTok tt P) {t : Nat} {k : IntKind} (hf : find tt.ints t = some k) : P.underlying t = some (.int k) := by
  have hc := h.chk
  simp only [ttCheck, Bool.and_eq_true, List.all_eq_true] at hc
  have := hc.2.2.2.2.1 _ (find_mem hf)
  simp only at this
  split at this
  · rename_i d hd; rw [hd]; congr 2; simpa using this
  · cases this
theorem TTok.ptrs (h : TTok tt P) {t : Nat} {u : Unit} (hf : find tt.ptrs t = some u) : ∃ e, P.underlying t = some (.pointer e) := by
  have hc := h.chk
  simp only [ttCheck, Bool.and_eq_true, List.all_eq_true] at hc
  have := hc.2.2.2.2.2.1 _ (find_mem hf)
  simp only at this
  split at this
  · rename_i d hd; exact ⟨d, hd⟩
  · cases this
theorem TTok.fns (h : TTok tt P) {t : Nat} {u : Unit} (hf : find tt.fns t = some u) : ∃ a b c, P.underlying t = some (.func a b c) := by
  have hc := h.chk
  simp only [ttCheck, Bool.and_eq_true, List.all_eq_true] at hc
  have := hc.2.2.2.2.2.2.1 _ (find_mem hf)
  simp only at this
  split at this
  · rename_i d hd; exact ⟨_, _, _, hd⟩
  · cases this
theorem TTok.strs (h : TTok tt P) {t : Nat} {u : Unit} (hf : find tt.strs t = some u) : P.underlying t = some .string := by
  have hc := h.chk
  simp only [ttCheck, Bool.and_eq_true, List.all_eq_true] at hc
  have := hc.2.2.2.2.2.2.2.1 _ (find_mem hf)
  simp only at this
  split at this
  · rename_i hd; exact hd
  · cases this
theorem TTok.bools (h : TTok tt P) {t : Nat} {u : Unit} (hf : find tt.bools t = some u) : P.underlying t = some .bool := by
  have hc := h.chk
  simp only [ttCheck, Bool.and_eq_true, List.all_eq_true] at hc
  have := hc.2.2.2.2.2.2.2.2.1 _ (find_mem hf)
  simp only at this
  split at this
  · rename_i hd; exact hd
  · cases this
theorem TTok.maps (h : TTok tt P) {t k e : Nat} (hf : find tt.maps t = some (k, e)) : P.underlying t = some (.map k e) := by
  have hc := h.chk
  simp only [ttCheck, Bool.and_eq_true, List.all_eq_true] at hc
  have := hc.2.2.2.2.2.2.2.2.2 _ (find_mem hf)
  simp only at this
  split at this
  · rename_i n' d' hd; simp only [Bool.and_eq_true, beq_iff_eq] at this; rw [hd, this.1, this.2]
  · cases this
theorem TTok.zero (h : TTok tt P) {t : Nat} {zs : List Value} (hf : find tt.zero t = some zs) : ∃ i v, P.info? t = some i ∧ i.zero = some v ∧ v.cells.toList = zs := by
  have := zerosOk_find h.zro hf
  cases hi : P.info? t with
  | none => rw [hi] at this; cases this
  | some i =>
    rw [hi] at this
    cases hz : i.zero with
    | none => simp [hz] at this
    | some v => exact ⟨i, v, rfl, hz, by simpa [hz] using this⟩

theorem run_sizeOf' {t : TypeId} {i : TypeInfo} (h : P.info? t = some i) (w : World) : (sizeOf t).run P w = .ok i.size w := by
  unfold sizeOf
  rw [Sem.run_bind, run_typeInfo w h]
  rfl
theorem run_isAgg' {t : TypeId} {d : TypeDesc} (h : P.underlying t = some d) (w : World) : (isAgg t).run P w = .ok (aggD d) w := by
  unfold isAgg
  rw [Sem.run_bind, run_underlying h w]
  cases d <;> rfl
theorem run_zeroValue' {t : TypeId} {i : TypeInfo} {v : Value} (h : P.info? t = some i) (hz : i.zero = some v) (w : World) : (zeroValue t).run P w = .ok v w := by
  unfold zeroValue
  rw [Sem.run_bind, run_typeInfo w h]
  simp [hz]
end

/-! ### Values, cell by cell -/
def cellsOf : AVal → Option (List AVal)
  | .agg xs => some xs
  | .tup _ => none
  | v => some [v]
/-- Values of one cell. -/
def one : AVal → Bool
  | .agg _ | .tup _ => false
  | _ => true

theorem VR.one {g : Ghost} {w : World} {v : AVal} {cv : Value} (h : VR g w v cv) (ho : one v = true) : cv.oneCell' = true ∧ cv.cells = #[cv] := by
  cases h with
  | sc hp => cases cv <;> first | exact ⟨rfl, rfl⟩ | exact hp.elim
  | agg _ _ => cases ho
  | tup _ _ => cases ho
  | _ => exact ⟨rfl, rfl⟩
/-- Lists of cells, one by one. -/
def VRs (g : Ghost) (w : World) (xs : List AVal) (cs : List Value) : Prop := xs.length = cs.length ∧ ∀ j (h : j < xs.length) (h' : j < cs.length), VR g w xs[j] cs[j]
theorem VRs.mono {g g' : Ghost} {w w' : World} (h : Ext g w g' w') {xs : List AVal} {cs : List Value} (k : VRs g w xs cs) : VRs g' w' xs cs := ⟨k.1, fun j h1 h2 => (k.2 j h1 h2).mono h⟩
theorem VRs.nil {g : Ghost} {w : World} : VRs g w [] [] := ⟨rfl, fun j h => absurd h (Nat.not_lt_zero _)⟩
theorem VRs.cons {g : Ghost} {w : World} {x : AVal} {c : Value} {xs : List AVal} {cs : List Value} (h : VR g w x c) (k : VRs g w xs cs) : VRs g w (x :: xs) (c :: cs) := by
  refine ⟨by simp [k.1], fun j h1 h2 => ?_⟩
  cases j with
  | zero => exact h
  | succ j => exact k.2 j (by simpa using h1) (by simpa using h2)
theorem VRs.append {g : Ghost} {w : World} {xs ys : List AVal} {cs ds : List Value} (h : VRs g w xs cs) (k : VRs g w ys ds) : VRs g w (xs ++ ys) (cs ++ ds) := by
  refine ⟨by simp [h.1, k.1], fun j h1 h2 => ?_⟩
  have := h.1
  by_cases hj : j < xs.length
  · rw [List.getElem_append_left hj, List.getElem_append_left (by omega)]; exact h.2 j _ _
  · rw [List.getElem_append_right (by omega), List.getElem_append_right (by omega)]
    have e : j - cs.length = j - xs.length := by omega
    simp only [e]
    exact k.2 _ _ _
theorem VRs.take {g : Ghost} {w : World} {xs : List AVal} {cs : List Value} (h : VRs g w xs cs) (k : Nat) : VRs g w (xs.take k) (cs.take k) := by
  refine ⟨by simp [h.1], fun j h1 h2 => ?_⟩
  rw [List.getElem_take, List.getElem_take]; exact h.2 j _ _
theorem VRs.drop {g : Ghost} {w : World} {xs : List AVal} {cs : List Value} (h : VRs g w xs cs) (k : Nat) : VRs g w (xs.drop k) (cs.drop k) := by
  refine ⟨by simp [h.1], fun j h1 h2 => ?_⟩
  rw [List.getElem_drop, List.getElem_drop]; exact h.2 _ _ _
theorem VRs.get {g : Ghost} {w : World} {xs : List AVal} {cs : List Value} (h : VRs g w xs cs) {j : Nat} {v : AVal} (hv : xs[j]? = some v) : ∃ cv, cs[j]? = some cv ∧ VR g w v cv := by
  obtain ⟨hj, rfl⟩ := List.getElem?_eq_some_iff.1 hv
  have := h.1
  exact ⟨cs[j]'(by omega), by rw [List.getElem?_eq_getElem], h.2 j hj (by omega)⟩
theorem VRs.set {g : Ghost} {w : World} {xs : List AVal} {cs : List Value} (h : VRs g w xs cs) (k : Nat) {v : AVal} {cv : Value} (hv : VR g w v cv) : VRs g w (xs.set k v) (cs.set k cv) := by
  refine ⟨by simp [h.1], fun j h1 h2 => ?_⟩
  simp only [List.getElem_set]
  split
  · exact hv
  · exact h.2 j _ _

theorem VR.cellsOf {g : Ghost} {w : World} {v : AVal} {cv : Value} {xs : List AVal} (h : VR g w v cv) (hc : cellsOf v = some xs) : VRs g w xs cv.cells.toList := by
  cases h with
  | @agg xs cs h1 h2 =>
    cases hc
    show VRs g w xs cs.toList
    exact ⟨by simpa using h1, fun j h1 h3 => by simpa using h2 j h1 (by simpa using h3)⟩
  | tup _ _ => cases hc
  | sc hp =>
    cases hc
    have : cv.cells = #[cv] := (VR.one (g := g) (w := w) (.sc hp) rfl).2
    rw [this]
    exact .cons (.sc hp) .nil
  | ptr => cases hc; exact .cons .ptr .nil
  | ept cv h1 h2 h3 => cases hc; exact .cons (.ept cv h1 h2 h3) .nil
  | nil => cases hc; exact .cons .nil .nil
  | nil' => cases hc; exact .cons .nil' .nil
  | zero => cases hc; exact .cons .zero .nil
  | zero' => cases hc; exact .cons .zero' .nil
  | sl cv h1 h2 h3 h4 h5 h6 h7 h8 => cases hc; exact .cons (.sl cv h1 h2 h3 h4 h5 h6 h7 h8) .nil
  | row => cases hc; exact .cons .row .nil
  | clo h1 h2 h3 h4 => cases hc; exact .cons (.clo h1 h2 h3 h4) .nil
  | mapv => cases hc; exact .cons .mapv .nil

/-- All cells of what lies in memory are of one cell each: a fact that the relation carries by itself. -/
def flatA (xs : List AVal) : Bool := xs.all one
theorem flat_one {g : Ghost} {w : World} {xs : List AVal} {cs : List Value} (h : VRs g w xs cs) (hf : flatA xs = true) : ∀ v ∈ cs, v.oneCell' = true := by
  intro v hv
  obtain ⟨j, hj, rfl⟩ := List.getElem_of_mem hv
  have hl := h.1
  exact (VR.one (h.2 j (by omega) hj) (List.all_eq_true.1 hf _ (List.getElem_mem _))).1

theorem ObjOk.vrs {g : Ghost} {w : World} {b : Nat} {cs : List AVal} (h : ObjOk g w b (.cells cs)) : ∃ c el, w.heap[b]? = some (.cells c el (0, 0)) ∧ VRs g w cs c.toList := by
  obtain ⟨_, c, el, hb, hl, hv⟩ := h
  exact ⟨c, el, hb, by simpa using hl, fun j h1 h2 => by simpa using hv j h1 (by simpa using h2)⟩
theorem ObjOk.vrs' {g : Ghost} {w : World} {b : Nat} {cs : List AVal} (h : ObjOk g w b (.ro cs)) : ∃ c el, w.heap[b]? = some (.cells c el (0, 0)) ∧ VRs g w cs c.toList := by
  obtain ⟨_, c, el, hb, hl, hv⟩ := h
  exact ⟨c, el, hb, by simpa using hl, fun j h1 h2 => by simpa using hv j h1 (by simpa using h2)⟩
/-- What can be read of a block, whether it may be written or not. -/
def Rd (H : AHeap) (b : Nat) (cs : List AVal) : Prop := H b = some (.cells cs) ∨ H b = some (.ro cs)
theorem Inv.vrs {g : Ghost} {w : World} {H : AHeap} (hi : Inv g w H) {b : Nat} {cs : List AVal} (h : Rd H b cs) : ∃ c el, w.heap[b]? = some (.cells c el (0, 0)) ∧ VRs g w cs c.toList := by
  rcases h with h | h
  · exact (hi.obj b _ h).2.vrs
  · exact (hi.obj b _ h).2.vrs'

/-! ### The world with a block written anew -/
theorem ext_setRow {g : Ghost} {w : World} {b : Nat} {c c' : Array Value} {el : TypeId} {fr : Nat × Nat} (hb : w.heap[b]? = some (.cells c el fr)) (hs : c'.size = c.size) (hbase : g.base ≤ b)
    (hlim : ∀ o, o < g.lim b → c'[o]? = c[o]?) (hpr : ¬ g.pr b) : Ext g w g (w.setRow b c') := by
  refine ⟨rfl, rfl, rfl, rfl, by simp, fun k hk => setRow_other w b k c' (by omega), fun _ => Nat.le_refl _, fun k o ho => ?_, fun k hk => ?_, rfl, fun k hk => setRow_other w b k c' (fun e => hpr (e ▸ hk))⟩
  · by_cases e : k = b
    · subst e
      rw [cell_setRow_same w k o c c' el fr hb, cell_of_row w k o c el fr hb]
      exact hlim o ho
    · exact cell_setRow_other w b c' _ e
  · unfold World.shape?
    by_cases e : k = b
    · subst e
      rw [setRow_heap w k c c' el fr hb, hb]
      simp only [hs]
    · rw [setRow_other w b k c' e]

theorem ObjOk.other {g : Ghost} {w : World} {b k : Nat} {c' : Array Value} (he : Ext g w g (w.setRow b c')) (hne : k ≠ b) {o : HObj} (h : ObjOk g w k o) : ObjOk g (w.setRow b c') k o := by
  cases o with
  | cells cs =>
    obtain ⟨h1, c, el, h2, h3, h4⟩ := h
    exact ⟨h1, c, el, by rw [setRow_other w b k c' hne]; exact h2, h3, fun j a b => (h4 j a b).mono he⟩
  | ro cs =>
    obtain ⟨h1, c, el, h2, h3, h4⟩ := h
    exact ⟨h1, c, el, by rw [setRow_other w b k c' hne]; exact h2, h3, fun j a b => (h4 j a b).mono he⟩
  | grow e =>
    obtain ⟨h1, c, el, h2⟩ := h
    exact ⟨h1, c, el, by rw [setRow_other w b k c' hne]; exact h2⟩
  | amap es =>
    obtain ⟨h1, c, el, h2, h3, h4⟩ := h
    exact ⟨h1, c, el, by rw [setRow_other w b k c' hne]; exact h2, h3, fun j a b => ⟨(h4 j a b).1, (h4 j a b).2.mono he⟩⟩
  | iter s pos => exact ⟨h.1, by rw [setRow_other w b k c' hne]; exact h.2⟩

theorem inv_store {g : Ghost} {w : World} {H : AHeap} (hi : Inv g w H) {b : Nat} {cs cs' : List AVal} (hb : H b = some (.cells cs)) {c : Array Value} {el : TypeId} (hw : w.heap[b]? = some (.cells c el (0, 0)))
    {c' : List Value} (hs : c'.length = c.size) (hv : VRs g w cs' c') : Ext g w g (w.setRow b c'.toArray) ∧ Inv g (w.setRow b c'.toArray) (H.put b (.cells cs')) := by
  obtain ⟨hbase, hok⟩ := hi.obj b _ hb
  have hlim : g.lim b = 0 := hok.1.1
  have he : Ext g w g (w.setRow b c'.toArray) := ext_setRow hw (by simpa using hs) hbase (fun o ho => by omega) hok.1.2
  refine ⟨he, ⟨by simpa using hi.base_le, fun k hk => hi.fresh k (by simpa using hk), fun k o hk => ?_⟩⟩
  by_cases e : k = b
  · subst e
    rw [put_same] at hk
    cases hk
    refine ⟨hbase, hok.1, c'.toArray, el, setRow_heap w k c _ el (0, 0) hw, by simpa using hv.1, fun j h1 h2 => ?_⟩
    have := hv.2 j h1 (by simpa using h2)
    simpa using this.mono he
  · rw [put_ne e] at hk
    exact ⟨(hi.obj k o hk).1, (hi.obj k o hk).2.other he e⟩

/-- A new block. -/
theorem ext_alloc {g : Ghost} {w : World} (hb : g.base ≤ w.heap.size) (hf : g.lim w.heap.size = 0) (hf' : ¬ g.pr w.heap.size) (o : Obj) : Ext g w g (w.alloc o) := by
  refine ⟨rfl, rfl, rfl, rfl, by simp, fun k hk => heap_alloc_old w o k (by omega), fun _ => Nat.le_refl _, fun k i hi => ?_, fun k hk => ?_, rfl, fun k hk => ?_⟩
  rotate_left 2
  · show (w.heap.push o)[k]? = _
    have hne : k ≠ w.heap.size := fun e => hf' (e ▸ hk)
    rw [Array.getElem?_push, if_neg hne]
  · refine World.cell?_alloc_old w o _ (fun e => ?_)
    simp only at e
    subst e
    omega
  · unfold World.shape?
    rw [heap_alloc_old w o k hk]
theorem ObjOk.alloc {g : Ghost} {w : World} {o : Obj} (he : Ext g w g (w.alloc o)) {k : Nat} {p : HObj} (h : ObjOk g w k p) : ObjOk g (w.alloc o) k p := by
  have hlt := h.lt
  cases p with
  | cells cs =>
    obtain ⟨h1, c, el, h2, h3, h4⟩ := h
    exact ⟨h1, c, el, by rw [heap_alloc_old w o k hlt]; exact h2, h3, fun j a b => (h4 j a b).mono he⟩
  | ro cs =>
    obtain ⟨h1, c, el, h2, h3, h4⟩ := h
    exact ⟨h1, c, el, by rw [heap_alloc_old w o k hlt]; exact h2, h3, fun j a b => (h4 j a b).mono he⟩
  | grow e =>
    obtain ⟨h1, c, el, h2⟩ := h
    exact ⟨h1, c, el, by rw [heap_alloc_old w o k hlt]; exact h2⟩
  | amap es =>
    obtain ⟨h1, c, el, h2, h3, h4⟩ := h
    exact ⟨h1, c, el, by rw [heap_alloc_old w o k hlt]; exact h2, h3, fun j a b => ⟨(h4 j a b).1, (h4 j a b).2.mono he⟩⟩
  | iter s pos => exact ⟨h.1, by rw [heap_alloc_old w o k hlt]; exact h.2⟩
theorem inv_alloc {g : Ghost} {w : World} {H : AHeap} (hi : Inv g w H) {c : List Value} (el : TypeId) {cs : List AVal} (hv : VRs g w cs c) :
    Ext g w g (w.alloc (.cells c.toArray el)) ∧ Inv g (w.alloc (.cells c.toArray el)) (H.put w.heap.size (.cells cs)) := by
  have he := ext_alloc hi.base_le (hi.fresh _ (Nat.le_refl _)).1 (hi.fresh _ (Nat.le_refl _)).2 (Obj.cells c.toArray el)
  refine ⟨he, ⟨by have := hi.base_le; simp; omega, fun k hk => hi.fresh k (by simp at hk; omega), fun k o hk => ?_⟩⟩
  by_cases e : k = w.heap.size
  · subst e
    rw [put_same] at hk
    cases hk
    refine ⟨hi.base_le, hi.fresh _ (Nat.le_refl _), c.toArray, el, heap_alloc_new w _, by simpa using hv.1, fun j h1 h2 => ?_⟩
    have := hv.2 j h1 (by simpa using h2)
    simpa using this.mono he
  · rw [put_ne e] at hk
    exact ⟨(hi.obj k o hk).1, (hi.obj k o hk).2.alloc he⟩

/-- A block that is never written again from now on. -/
def Ghost.fix (g : Ghost) (b e : Nat) : Ghost := { g with lim := fun x => if x = b then e else g.lim x }
theorem ext_seal {g : Ghost} {w : World} {b e : Nat} (h : g.lim b ≤ e) : Ext g w (g.fix b e) w :=
  ⟨rfl, rfl, rfl, rfl, Nat.le_refl _, fun _ _ => rfl, fun x => by simp only [Ghost.fix]; split <;> simp_all, fun _ _ _ => rfl, fun _ _ => rfl, rfl, fun _ _ => rfl⟩
theorem inv_seal {g : Ghost} {w : World} {H : AHeap} (hi : Inv g w H) {b e : Nat} (h : g.lim b ≤ e) (hb : b < w.heap.size) (hH : H b = none) : Inv (g.fix b e) w H := by
  have he := ext_seal (w := w) h
  refine ⟨hi.base_le, fun k hk => ?_, fun k o hk => ?_⟩
  · simp only [Ghost.fix]; rw [if_neg (by omega)]; exact hi.fresh k hk
  · have hne : k ≠ b := fun e => by rw [e, hH] at hk; cases hk
    refine ⟨(hi.obj k o hk).1, ?_⟩
    have hok := (hi.obj k o hk).2
    have hl : (g.fix b e).lim k = g.lim k := by simp only [Ghost.fix]; rw [if_neg hne]
    cases o with
    | cells cs => exact ⟨by rw [hl]; exact hok.1, let ⟨c, el, h2, h3, h4⟩ := hok.2; ⟨c, el, h2, h3, fun j a b => (h4 j a b).mono he⟩⟩
    | ro cs => exact ⟨by rw [hl]; exact hok.1, let ⟨c, el, h2, h3, h4⟩ := hok.2; ⟨c, el, h2, h3, fun j a b => (h4 j a b).mono he⟩⟩
    | grow x => exact ⟨by rw [hl]; exact hok.1, hok.2⟩
    | amap es => exact ⟨by rw [hl]; exact hok.1, let ⟨c, el, h2, h3, h4⟩ := hok.2; ⟨c, el, h2, h3, fun j a b => ⟨(h4 j a b).1, (h4 j a b).2.mono he⟩⟩⟩
    | iter s pos => exact ⟨by rw [hl]; exact hok.1, hok.2⟩

theorem Inv.none {g : Ghost} {w : World} {H : AHeap} (h : Inv g w H) {b : Nat} (hb : w.heap.size ≤ b) : H b = Option.none := by
  cases hx : H b with
  | none => rfl
  | some o => have := h.lt hx; omega
end Abs
end Go.Proofs.Ytmokoofibnoojaa
