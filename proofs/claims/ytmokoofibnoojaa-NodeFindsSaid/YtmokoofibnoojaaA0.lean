import Derived.Below
import Derived.Tactics
import Derived.Orders
import Derived.KernelRfl
set_option linter.unusedVariables false
namespace Go.Proofs.Ytmokoofibnoojaa
namespace Abs
open Go.RowKit

/-! ### Abstract values: slices by value, pointers by block number -/
/-- May a slice be appended to? no: not known · full: its length is its capacity · tok: block b holds nothing behind cell e that anybody reads, while the heap says 'grow e' of b; es: an element's cells. -/
inductive Own where
  | no
  | full
  | tok (b e es : Nat)

inductive AVal where
  | sc (v : Value)
  | ptr (b off : Nat)
  | ept (c : List AVal) (off : Nat)
  | sl (xs : List (List AVal)) (o : Own)
  | row (b off n cap : Nat)
  | clo (f : FuncId) (first captured : List AVal)
  | agg (xs : List AVal)
  | tup (xs : List AVal)
  | mapv (b : Nat)

instance : Inhabited AVal := ⟨.tup []⟩

structure Ghost where
  base : Nat
  lim : Nat → Nat
  pr : Nat → Prop

def Ghost.imm (g : Ghost) (b e : Nat) : Prop := b < g.base ∨ e ≤ g.lim b

def Plain : Value → Prop
  | .bool _ | .int _ _ | .float _ _ | .complex _ _ _ | .string _ | .pointer none | .map none | .chan none | .nilFunc | .nilIface => True
  | _ => False

def ownOk (g : Ghost) (w : World) (own : Own) (b e n cap es : Nat) : Prop :=
  match own with
  | .no => True
  | .full => cap = n
  | .tok b' e' s' => b' = b ∧ e' = e ∧ s' = es ∧ g.base ≤ b

/-- Block b is a row of cells, at least m long. -/
def hasRow (w : World) (b m : Nat) : Prop := ∃ el n, w.shape? b = some (el, n) ∧ m ≤ n

inductive VR (g : Ghost) (w : World) : AVal → Value → Prop where
  | sc {v : Value} : Plain v → VR g w (.sc v) v
  | ptr {b off : Nat} : VR g w (.ptr b off) (.pointer (some ⟨b, off, none⟩))
  | ept {c : List AVal} {off b o : Nat} (cv : Nat → Value) : g.imm b (o + c.length) →
      (∀ j, j < c.length → w.cell? ⟨b, o + j, none⟩ = some (cv j)) → (∀ j (h : j < c.length), VR g w c[j] (cv j)) →
      VR g w (.ept c off) (.pointer (some ⟨b, o + off, none⟩))
  | nil : VR g w (.sl [] .full) (.slice none 0 0)
  | nil' : VR g w (.sl [] .no) (.slice none 0 0)
  | zero {a : Addr} : VR g w (.sl [] .full) (.slice (some a) 0 0)
  | zero' {a : Addr} : VR g w (.sl [] .no) (.slice (some a) 0 0)
  | sl {xs : List (List AVal)} {own : Own} {b o es cap : Nat} (cv : Nat → Nat → Value) : (∀ i (h : i < xs.length), xs[i].length = es) → g.imm b (o + xs.length * es) →
      xs.length ≤ cap → xs.length ≤ maxLen → hasRow w b (o + cap * es) → ownOk g w own b (o + xs.length * es) xs.length cap es →
      (∀ i (h : i < xs.length), ∀ j, j < xs[i].length → w.cell? ⟨b, o + i * es + j, none⟩ = some (cv i j)) →
      (∀ i (h : i < xs.length), ∀ j (h' : j < xs[i].length), VR g w xs[i][j] (cv i j)) →
      VR g w (.sl xs own) (.slice (some ⟨b, o, none⟩) xs.length cap)
  | row {b off n cap : Nat} : VR g w (.row b off n cap) (.slice (some ⟨b, off, none⟩) n cap)
  | clo {f : FuncId} {fs cs : List AVal} {fv cv : Array Value} : fs.length = fv.size → cs.length = cv.size →
      (∀ j (h : j < fs.length) (h' : j < fv.size), VR g w fs[j] fv[j]) → (∀ j (h : j < cs.length) (h' : j < cv.size), VR g w cs[j] cv[j]) →
      VR g w (.clo f fs cs) (.func (.func f) fv cv)
  | agg {xs : List AVal} {cs : Array Value} : xs.length = cs.size → (∀ j (h : j < xs.length) (h' : j < cs.size), VR g w xs[j] cs[j]) → VR g w (.agg xs) (.agg cs)
  | tup {xs : List AVal} {cs : Array Value} : xs.length = cs.size → (∀ j (h : j < xs.length) (h' : j < cs.size), VR g w xs[j] cs[j]) → VR g w (.tup xs) (.tuple cs)
  | mapv {b : Nat} : VR g w (.mapv b) (.map (some b))

theorem VR.emptyF {g : Ghost} {w : World} (a : Option Addr) : VR g w (.sl [] .full) (.slice a 0 0) := match a with | none => .nil | some _ => .zero
theorem VR.emptyN {g : Ghost} {w : World} (a : Option Addr) : VR g w (.sl [] .no) (.slice a 0 0) := match a with | none => .nil' | some _ => .zero'

/-! ### The abstract heap: what is known of the blocks of the call's own -/
inductive HObj where
  | cells (cs : List AVal)
  | ro (cs : List AVal)
  | grow (e : Nat)
  | amap (es : List (Value × AVal))
  | iter (s : ByteArray) (pos : Nat)

abbrev AHeap := Nat → Option HObj
def AHeap.put (H : AHeap) (b : Nat) (o : HObj) : AHeap := fun x => if x = b then some o else H x
def AHeap.del (H : AHeap) (b : Nat) : AHeap := fun x => if x = b then none else H x

theorem put_same (H : AHeap) (b : Nat) (o : HObj) : H.put b o b = some o := by simp [AHeap.put]
theorem put_ne {H : AHeap} {b x : Nat} {o : HObj} (h : x ≠ b) : H.put b o x = H x := by simp [AHeap.put, h]
theorem put_put (H : AHeap) (b : Nat) (o o' : HObj) : (H.put b o).put b o' = H.put b o' := by
  funext x; simp only [AHeap.put]; split <;> rfl

def ObjOk (g : Ghost) (w : World) (b : Nat) : HObj → Prop
  | .cells cs => (g.lim b = 0 ∧ ¬ g.pr b) ∧ ∃ c el, w.heap[b]? = some (.cells c el (0, 0)) ∧ cs.length = c.size ∧ ∀ j (h : j < cs.length) (h' : j < c.size), VR g w cs[j] c[j]
  | .ro cs => (g.lim b = 0 ∧ g.pr b) ∧ ∃ c el, w.heap[b]? = some (.cells c el (0, 0)) ∧ cs.length = c.size ∧ ∀ j (h : j < cs.length) (h' : j < c.size), VR g w cs[j] c[j]
  | .grow e => (g.lim b = e ∧ ¬ g.pr b) ∧ ∃ c el, w.heap[b]? = some (.cells c el (0, 0))
  | .iter s pos => (g.lim b = 0 ∧ ¬ g.pr b) ∧ w.heap[b]? = some (.stringIter s pos)
  | .amap es => (g.lim b = 0 ∧ ¬ g.pr b) ∧ ∃ (me : Array MapEntry) (clock : Nat), w.heap[b]? = some (.map me clock) ∧ es.length = me.size ∧
      ∀ j (h : j < es.length) (h' : j < me.size), es[j].1 = me[j].key ∧ VR g w es[j].2 me[j].val

structure Inv (g : Ghost) (w : World) (H : AHeap) : Prop where
  base_le : g.base ≤ w.heap.size
  fresh : ∀ b, w.heap.size ≤ b → g.lim b = 0 ∧ ¬ g.pr b
  obj : ∀ b o, H b = some o → g.base ≤ b ∧ ObjOk g w b o

structure Ext (g : Ghost) (w : World) (g' : Ghost) (w' : World) : Prop where
  base : g'.base = g.base
  os : w'.os = w.os
  tape : w'.tape = w.tape
  output : w'.output = w.output
  size : w.heap.size ≤ w'.heap.size
  old : ∀ b, b < g.base → w'.heap[b]? = w.heap[b]?
  lim : ∀ b, g.lim b ≤ g'.lim b
  cells : ∀ b o, o < g.lim b → w'.cell? ⟨b, o, none⟩ = w.cell? ⟨b, o, none⟩
  shape : ∀ b, b < w.heap.size → w'.shape? b = w.shape? b
  pr : g'.pr = g.pr
  same : ∀ b, g.pr b → w'.heap[b]? = w.heap[b]?

theorem Ext.refl (g : Ghost) (w : World) : Ext g w g w := ⟨rfl, rfl, rfl, rfl, Nat.le_refl _, fun _ _ => rfl, fun _ => Nat.le_refl _, fun _ _ _ => rfl, fun _ _ => rfl, rfl, fun _ _ => rfl⟩
theorem Ext.trans {g g1 g2 : Ghost} {w w1 w2 : World} (h : Ext g w g1 w1) (k : Ext g1 w1 g2 w2) : Ext g w g2 w2 :=
  ⟨k.base.trans h.base, k.os.trans h.os, k.tape.trans h.tape, k.output.trans h.output, Nat.le_trans h.size k.size,
   fun b hb => (k.old b (by rw [h.base]; exact hb)).trans (h.old b hb), fun b => Nat.le_trans (h.lim b) (k.lim b),
   fun b o ho => (k.cells b o (Nat.lt_of_lt_of_le ho (h.lim b))).trans (h.cells b o ho),
   fun b hb => (k.shape b (Nat.lt_of_lt_of_le hb h.size)).trans (h.shape b hb), k.pr.trans h.pr, fun b hb => (k.same b (by rw [h.pr]; exact hb)).trans (h.same b hb)⟩

theorem Ext.imm {g g' : Ghost} {w w' : World} (h : Ext g w g' w') {b e : Nat} (hi : g.imm b e) : g'.imm b e := by
  rcases hi with hi | hi
  · exact .inl (by rw [h.base]; exact hi)
  · exact .inr (Nat.le_trans hi (h.lim b))

theorem Ext.cell {g g' : Ghost} {w w' : World} (h : Ext g w g' w') {b e o : Nat} (hi : g.imm b e) (ho : o < e) : w'.cell? ⟨b, o, none⟩ = w.cell? ⟨b, o, none⟩ := by
  rcases hi with hi | hi
  · unfold World.cell?
    simp only [h.old b hi]
  · exact h.cells b o (by omega)

theorem Ext.hasRow {g g' : Ghost} {w w' : World} (h : Ext g w g' w') {b m : Nat} (hr : hasRow w b m) : hasRow w' b m := by
  obtain ⟨el, n, hs, hn⟩ := hr
  have hb : b < w.heap.size := by
    rcases Nat.lt_or_ge b w.heap.size with h' | h'
    · exact h'
    · simp [World.shape?, Array.getElem?_eq_none h'] at hs
  exact ⟨el, n, by rw [h.shape b hb]; exact hs, hn⟩

theorem VR.mono {g g' : Ghost} {w w' : World} (h : Ext g w g' w') {v : AVal} {cv : Value} (hv : VR g w v cv) : VR g' w' v cv := by
  induction hv with
  | sc hp => exact .sc hp
  | ptr => exact .ptr
  | ept cv hi hc _ ih => exact .ept cv (h.imm hi) (fun j hj => (h.cell hi (by omega)).trans (hc j hj)) ih
  | nil => exact .nil
  | nil' => exact .nil'
  | zero => exact .zero
  | zero' => exact .zero'
  | @sl xs own b o es cap cv hl hi hcap hmx hrow hown hc _ ih =>
    refine .sl cv hl (h.imm hi) hcap hmx (h.hasRow hrow) ?_ (fun i hi' j hj => (h.cell hi ?_).trans (hc i hi' j hj)) ih
    · cases own with
      | no => trivial
      | full => exact hown
      | tok b' e' s' => exact ⟨hown.1, hown.2.1, hown.2.2.1, by rw [h.base]; exact hown.2.2.2⟩
    · have := hl i hi'
      have h1 : (i + 1) * es ≤ xs.length * es := Nat.mul_le_mul_right _ hi'
      have h2 : (i + 1) * es = i * es + es := Nat.succ_mul i es
      omega
  | row => exact .row
  | clo h1 h2 _ _ ih1 ih2 => exact .clo h1 h2 ih1 ih2
  | agg h1 _ ih => exact .agg h1 ih
  | tup h1 _ ih => exact .tup h1 ih
  | mapv => exact .mapv

/-! ### A value that knows less -/
inductive Wk : AVal → AVal → Prop where
  | refl (v : AVal) : Wk v v
  | sl (xs : List (List AVal)) (o : Own) : Wk (.sl xs o) (.sl xs .no)
  | agg {xs ys : List AVal} : xs.length = ys.length → (∀ j (h : j < xs.length) (h' : j < ys.length), Wk xs[j] ys[j]) → Wk (.agg xs) (.agg ys)
  | tup {xs ys : List AVal} : xs.length = ys.length → (∀ j (h : j < xs.length) (h' : j < ys.length), Wk xs[j] ys[j]) → Wk (.tup xs) (.tup ys)

theorem VR.wk {g : Ghost} {w : World} {v v' : AVal} (hw : Wk v v') : ∀ {cv : Value}, VR g w v cv → VR g w v' cv := by
  induction hw with
  | refl => exact fun h => h
  | sl xs o =>
    intro cv h
    cases h with
    | nil => exact .nil'
    | nil' => exact .nil'
    | zero => exact .zero'
    | zero' => exact .zero'
    | sl cv h1 h2 h3 h4 h5 h6 h7 h8 => exact .sl cv h1 h2 h3 h4 h5 trivial h7 h8
  | agg hl _ ih =>
    intro cv h
    cases h with
    | agg h1 h2 => exact .agg (hl ▸ h1) (fun j hj hj' => ih j (by omega) hj (h2 j (by omega) hj'))
  | tup hl _ ih =>
    intro cv h
    cases h with
    | tup h1 h2 => exact .tup (hl ▸ h1) (fun j hj hj' => ih j (by omega) hj (h2 j (by omega) hj'))

theorem Wk.trans {a b : AVal} (h : Wk a b) : ∀ {c : AVal}, Wk b c → Wk a c := by
  induction h with
  | refl => exact fun h => h
  | sl xs o =>
    intro c k
    cases k with
    | refl => exact .sl _ _
    | sl => exact .sl _ _
  | agg hl h1 ih =>
    intro c k
    cases k with
    | refl => exact .agg hl h1
    | agg hl2 h2 => exact .agg (hl.trans hl2) (fun j h h' => ih j h (by omega) (h2 j (by omega) h'))
  | tup hl h1 ih =>
    intro c k
    cases k with
    | refl => exact .tup hl h1
    | tup hl2 h2 => exact .tup (hl.trans hl2) (fun j h h' => ih j h (by omega) (h2 j (by omega) h'))
/-- Cells that know less. -/
inductive HWk : HObj → HObj → Prop where
  | refl (o : HObj) : HWk o o
  | cells {xs ys : List AVal} : Wk (.agg xs) (.agg ys) → HWk (.cells xs) (.cells ys)
  | ro {xs ys : List AVal} : Wk (.agg xs) (.agg ys) → HWk (.ro xs) (.ro ys)
theorem HWk.trans {a b c : HObj} (h : HWk a b) (k : HWk b c) : HWk a c := by
  cases h with
  | refl => exact k
  | cells h1 =>
    cases k with
    | refl => exact .cells h1
    | cells h2 => exact .cells (h1.trans h2)
  | ro h1 =>
    cases k with
    | refl => exact .ro h1
    | ro h2 => exact .ro (h1.trans h2)
theorem ObjOk.wk {g : Ghost} {w : World} {b : Nat} {o o' : HObj} (h : ObjOk g w b o) (k : HWk o o') : ObjOk g w b o' := by
  cases k with
  | refl => exact h
  | cells hw =>
    obtain ⟨h1, c, el, h2, h3, h4⟩ := h
    have := (VR.agg (g := g) (w := w) h3 h4).wk hw
    cases this with
    | agg a1 a2 => exact ⟨h1, c, el, h2, a1, a2⟩
  | ro hw =>
    obtain ⟨h1, c, el, h2, h3, h4⟩ := h
    have := (VR.agg (g := g) (w := w) h3 h4).wk hw
    cases this with
    | agg a1 a2 => exact ⟨h1, c, el, h2, a1, a2⟩

/-- Heaps that know less. -/
def AHeap.sub (H H' : AHeap) : Prop := ∀ b o, H b = some o → ∃ o', H' b = some o' ∧ HWk o' o
theorem AHeap.sub_refl (H : AHeap) : H.sub H := fun _ o h => ⟨o, h, .refl o⟩
theorem AHeap.sub_trans {H H1 H2 : AHeap} (h : H.sub H1) (k : H1.sub H2) : H.sub H2 := fun b o hb =>
  let ⟨o1, h1, w1⟩ := h b o hb; let ⟨o2, h2, w2⟩ := k b o1 h1; ⟨o2, h2, w2.trans w1⟩
theorem AHeap.sub_put {H H' : AHeap} (h : H.sub H') {b : Nat} (o : HObj) (hb : H b = none) : H.sub (H'.put b o) := fun x p hx => by
  by_cases e : x = b
  · subst e; rw [hb] at hx; cases hx
  · rw [put_ne e]; exact h x p hx
theorem AHeap.put_sub_wk {H H' : AHeap} (h : H.sub H') (b : Nat) {o o' : HObj} (hw : HWk o' o) : (H.put b o).sub (H'.put b o') := fun x p hx => by
  by_cases e : x = b
  · subst e; rw [put_same] at hx; cases hx; exact ⟨o', put_same _ _ _, hw⟩
  · rw [put_ne e] at hx ⊢; exact h x p hx
theorem AHeap.put_sub {H H' : AHeap} (h : H.sub H') (b : Nat) (o : HObj) : (H.put b o).sub (H'.put b o) := AHeap.put_sub_wk h b (.refl o)
theorem AHeap.del_sub {H H' : AHeap} (h : H.sub H') (b : Nat) : (H.del b).sub H' := fun x p hx => by
  unfold AHeap.del at hx
  split at hx
  · cases hx
  · exact h x p hx
theorem Inv.sub {g : Ghost} {w : World} {H H' : AHeap} (h : Inv g w H') (hs : H.sub H') : Inv g w H :=
  ⟨h.base_le, h.fresh, fun b o hb => let ⟨o', h1, h2⟩ := hs b o hb; ⟨(h.obj b o' h1).1, (h.obj b o' h1).2.wk h2⟩⟩

theorem ObjOk.lt {g : Ghost} {w : World} {b : Nat} {o : HObj} (h : ObjOk g w b o) : b < w.heap.size := by
  cases o with
  | cells cs => obtain ⟨_, c, el, h, _⟩ := h; exact (Array.getElem?_eq_some_iff.1 h).1
  | ro cs => obtain ⟨_, c, el, h, _⟩ := h; exact (Array.getElem?_eq_some_iff.1 h).1
  | grow e => obtain ⟨_, c, el, h⟩ := h; exact (Array.getElem?_eq_some_iff.1 h).1
  | amap es => obtain ⟨_, c, el, h, _⟩ := h; exact (Array.getElem?_eq_some_iff.1 h).1
  | iter s pos => exact (Array.getElem?_eq_some_iff.1 h.2).1
theorem Inv.lt {g : Ghost} {w : World} {H : AHeap} (h : Inv g w H) {b : Nat} {o : HObj} (hb : H b = some o) : b < w.heap.size := (h.obj b o hb).2.lt
theorem Inv.size_fresh {g : Ghost} {w : World} {H : AHeap} (h : Inv g w H) : H w.heap.size = none := by
  cases hb : H w.heap.size with
  | none => rfl
  | some o => have := h.lt hb; omega

/-! ### Frames -/
abbrev Fr := List (Nat × AVal)
def Fr.get : Fr → Nat → Option AVal
  | [], _ => none
  | (d, v) :: F, t => bif Nat.beq d t then some v else Fr.get F t
def Fr.drop : Fr → Nat → Fr
  | [], _ => []
  | (d, v) :: F, t => bif Nat.beq d t then Fr.drop F t else (d, v) :: Fr.drop F t
def Fr.put (F : Fr) (dst : Option Tmp) (v : AVal) : Fr := match dst with | some d => (d, v) :: F | none => F
/-- The slot holds something that nobody knows. -/
def Fr.kill (F : Fr) (dst : Option Tmp) : Fr := match dst with | some d => Fr.drop F d | none => F

theorem Fr.get_drop (F : Fr) (d t : Nat) (v : AVal) (h : (Fr.drop F d).get t = some v) : F.get t = some v ∧ t ≠ d := by
  induction F with
  | nil => cases h
  | cons p F ih =>
    obtain ⟨e, u⟩ := p
    simp only [Fr.drop] at h
    cases hed : Nat.beq e d with
    | true =>
      rw [hed] at h
      have := ih h
      refine ⟨?_, this.2⟩
      have hed' := Nat.eq_of_beq_eq_true hed
      have hne : Nat.beq e t = false := by
        cases hx : Nat.beq e t with
        | false => rfl
        | true => exact absurd ((Nat.eq_of_beq_eq_true hx).symm.trans hed') this.2
      simp only [Fr.get, hne, cond_false]; exact this.1
    | false =>
      rw [hed] at h
      simp only [cond_false, Fr.get] at h ⊢
      cases hx : Nat.beq e t with
      | true =>
        rw [hx] at h
        refine ⟨h, fun htd => ?_⟩
        have := Nat.eq_of_beq_eq_true hx
        rw [this, htd, Nat.beq_refl] at hed
        cases hed
      | false => rw [hx] at h; exact ih h

structure FR (g : Ghost) (w : World) (n : Nat) (F : Fr) (a : Act) : Prop where
  size : a.tmps.size = n
  defers : a.defers = []
  slot : ∀ t v, F.get t = some v → ∃ cv, a.tmps[t]? = some cv ∧ VR g w v cv

theorem FR.mono {g g' : Ghost} {w w' : World} (h : Ext g w g' w') {n : Nat} {F : Fr} {a : Act} (k : FR g w n F a) : FR g' w' n F a :=
  ⟨k.size, k.defers, fun t v ht => let ⟨cv, h1, h2⟩ := k.slot t v ht; ⟨cv, h1, h2.mono h⟩⟩

theorem FR.put {g : Ghost} {w : World} {n : Nat} {F : Fr} {a : Act} (k : FR g w n F a) {dst : Option Tmp} {v : AVal} {cv : Value} (hd : ∀ d, dst = some d → d < n) (hv : VR g w v cv) :
    FR g w n (F.put dst v) (a.put dst cv) := by
  cases dst with
  | none => exact k
  | some d =>
    refine ⟨by simpa [Act.put] using k.size, k.defers, fun t u ht => ?_⟩
    have hdn := hd d rfl
    have hs := k.size
    simp only [Fr.put, Fr.get] at ht
    cases hx : Nat.beq d t with
    | true =>
      have := Nat.eq_of_beq_eq_true hx
      subst this
      rw [hx] at ht
      cases ht
      exact ⟨cv, by simp [Act.put, hs, hdn], hv⟩
    | false =>
      rw [hx] at ht
      obtain ⟨c, h1, h2⟩ := k.slot t u ht
      have hne : d ≠ t := fun e => by rw [e, Nat.beq_refl] at hx; cases hx
      exact ⟨c, by simp only [Act.put]; rw [Array.getElem?_setIfInBounds_ne hne]; exact h1, h2⟩

theorem FR.kill {g : Ghost} {w : World} {n : Nat} {F : Fr} {a : Act} (k : FR g w n F a) (dst : Option Tmp) (cv : Value) : FR g w n (F.kill dst) (a.put dst cv) := by
  cases dst with
  | none => exact k
  | some d =>
    refine ⟨by simpa [Act.put] using k.size, k.defers, fun t u ht => ?_⟩
    obtain ⟨h1, h2⟩ := Fr.get_drop F d t u ht
    obtain ⟨c, h3, h4⟩ := k.slot t u h1
    exact ⟨c, by simp only [Act.put]; rw [Array.getElem?_setIfInBounds_ne (Ne.symm h2)]; exact h3, h4⟩

/-- A frame that knows less. -/
def Fr.sub (F F' : Fr) : Prop := ∀ t v, F.get t = some v → ∃ v', F'.get t = some v' ∧ Wk v' v
theorem FR.sub {g : Ghost} {w : World} {n : Nat} {F F' : Fr} {a : Act} (k : FR g w n F' a) (h : F.sub F') : FR g w n F a :=
  ⟨k.size, k.defers, fun t v ht => let ⟨v', h1, h2⟩ := h t v ht; let ⟨cv, h3, h4⟩ := k.slot t v' h1; ⟨cv, h3, h4.wk h2⟩⟩
theorem Fr.sub_refl (F : Fr) : F.sub F := fun t v h => ⟨v, h, .refl v⟩
theorem Fr.sub_nil (F : Fr) : Fr.sub [] F := fun t v h => by cases h
theorem Fr.sub_cons_wk {F F' : Fr} {d : Nat} {v v' : AVal} (h : F'.get d = some v') (hw : Wk v' v) (k : F.sub F') : Fr.sub ((d, v) :: F) F' := fun t u ht => by
  simp only [Fr.get] at ht
  cases hx : Nat.beq d t with
  | true => rw [hx] at ht; cases ht; rw [← Nat.eq_of_beq_eq_true hx]; exact ⟨v', h, hw⟩
  | false => rw [hx] at ht; exact k t u ht
theorem Fr.sub_cons {F F' : Fr} {d : Nat} {v : AVal} (h : F'.get d = some v) (k : F.sub F') : Fr.sub ((d, v) :: F) F' := Fr.sub_cons_wk h (.refl v) k

end Abs
end Go.Proofs.Ytmokoofibnoojaa
