import Derived.Below
import Derived.Tactics
import Derived.Orders
import Derived.KernelRfl
import Derived.LoopN
import Derived.Scope
import Derived.Laws.Rows
import Derived.Laws.CopyRow
import Derived.ChangeKeysEq
set_option linter.unusedVariables false
namespace Go.Proofs.Ytbldnaflffmddaa
namespace Abs
open Go.RowKit

/-! ### Abstract values: slices by value, pointers by block number -/
/-- May a slice be appended to? no: not known · full: its length is its capacity · tok: block b holds nothing behind cell e that anybody reads, while the heap says 'grow e' of b; es: an element's cells. -/
inductive Own where
  | no
  | full
  | tok (b e es : Nat)

inductive AVal where
  | sc (v : Value)
  | ptr (b off : Nat)
  | ept (c : List AVal) (off : Nat)
  | sl (xs : List (List AVal)) (o : Own)
  | row (b off n cap : Nat)
  | clo (f : FuncId) (first captured : List AVal)
  | agg (xs : List AVal)
  | tup (xs : List AVal)
  | mapv (b : Nat)

instance : Inhabited AVal := ⟨.tup []⟩

structure Ghost where
  base : Nat
  lim : Nat → Nat
  pr : Nat → Prop

def Ghost.imm (g : Ghost) (b e : Nat) : Prop := b < g.base ∨ e ≤ g.lim b

def Plain : Value → Prop
  | .bool _ | .int _ _ | .float _ _ | .complex _ _ _ | .string _ | .pointer none | .map none | .chan none | .nilFunc | .nilIface => True
  | _ => False

def ownOk (g : Ghost) (w : World) (own : Own) (b e n cap es : Nat) : Prop :=
  match own with
  | .no => True
  | .full => cap = n
  | .tok b' e' s' => b' = b ∧ e' = e ∧ s' = es ∧ g.base ≤ b

/-- Block b is a row of cells, at least m long. -/
def hasRow (w : World) (b m : Nat) : Prop := ∃ el n, w.shape? b = some (el, n) ∧ m ≤ n

inductive VR (g : Ghost) (w : World) : AVal → Value → Prop where
  | sc {v : Value} : Plain v → VR g w (.sc v) v
  | ptr {b off : Nat} : VR g w (.ptr b off) (.pointer (some ⟨b, off, none⟩))
  | ept {c : List AVal} {off b o : Nat} (cv : Nat → Value) : g.imm b (o + c.length) →
      (∀ j, j < c.length → w.cell? ⟨b, o + j, none⟩ = some (cv j)) → (∀ j (h : j < c.length), VR g w c[j] (cv j)) →
      VR g w (.ept c off) (.pointer (some ⟨b, o + off, none⟩))
  | nil : VR g w (.sl [] .full) (.slice none 0 0)
  | nil' : VR g w (.sl [] .no) (.slice none 0 0)
  | zero {a : Addr} : VR g w (.sl [] .full) (.slice (some a) 0 0)
  | zero' {a : Addr} : VR g w (.sl [] .no) (.slice (some a) 0 0)
  | sl {xs : List (List AVal)} {own : Own} {b o es cap : Nat} (cv : Nat → Nat → Value) : (∀ i (h : i < xs.length), xs[i].length = es) → g.imm b (o + xs.length * es) →
      xs.length ≤ cap → xs.length ≤ maxLen → hasRow w b (o + cap * es) → ownOk g w own b (o + xs.length * es) xs.length cap es →
      (∀ i (h : i < xs.length), ∀ j, j < xs[i].length → w.cell? ⟨b, o + i * es + j, none⟩ = some (cv i j)) →
      (∀ i (h : i < xs.length), ∀ j (h' : j < xs[i].length), VR g w xs[i][j] (cv i j)) →
      VR g w (.sl xs own) (.slice (some ⟨b, o, none⟩) xs.length cap)
  | row {b off n cap : Nat} : VR g w (.row b off n cap) (.slice (some ⟨b, off, none⟩) n cap)
  | clo {f : FuncId} {fs cs : List AVal} {fv cv : Array Value} : fs.length = fv.size → cs.length = cv.size →
      (∀ j (h : j < fs.length) (h' : j < fv.size), VR g w fs[j] fv[j]) → (∀ j (h : j < cs.length) (h' : j < cv.size), VR g w cs[j] cv[j]) →
      VR g w (.clo f fs cs) (.func (.func f) fv cv)
  | agg {xs : List AVal} {cs : Array Value} : xs.length = cs.size → (∀ j (h : j < xs.length) (h' : j < cs.size), VR g w xs[j] cs[j]) → VR g w (.agg xs) (.agg cs)
  | tup {xs : List AVal} {cs : Array Value} : xs.length = cs.size → (∀ j (h : j < xs.length) (h' : j < cs.size), VR g w xs[j] cs[j]) → VR g w (.tup xs) (.tuple cs)
  | mapv {b : Nat} : VR g w (.mapv b) (.map (some b))

theorem VR.emptyF {g : Ghost} {w : World} (a : Option Addr) : VR g w (.sl [] .full) (.slice a 0 0) := match a with | none => .nil | some _ => .zero
/-! ### The abstract heap: what is known of the blocks of the call's own -/
inductive HObj where
  | cells (cs : List AVal)
  | ro (cs : List AVal)
  | grow (e : Nat)
  | amap (es : List (Value × AVal))
  | iter (s : ByteArray) (pos : Nat)

abbrev AHeap := Nat → Option HObj
def AHeap.put (H : AHeap) (b : Nat) (o : HObj) : AHeap := fun x => if x = b then some o else H x
def AHeap.del (H : AHeap) (b : Nat) : AHeap := fun x => if x = b then none else H x

theorem put_same (H : AHeap) (b : Nat) (o : HObj) : H.put b o b = some o := by simp [AHeap.put]
theorem put_ne {H : AHeap} {b x : Nat} {o : HObj} (h : x ≠ b) : H.put b o x = H x := by simp [AHeap.put, h]
theorem put_put (H : AHeap) (b : Nat) (o o' : HObj) : (H.put b o).put b o' = H.put b o' := by
  funext x; simp only [AHeap.put]; split <;> rfl

def ObjOk (g : Ghost) (w : World) (b : Nat) : HObj → Prop
  | .cells cs => (g.lim b = 0 ∧ ¬ g.pr b) ∧ ∃ c el, w.heap[b]? = some (.cells c el (0, 0)) ∧ cs.length = c.size ∧ ∀ j (h : j < cs.length) (h' : j < c.size), VR g w cs[j] c[j]
  | .ro cs => (g.lim b = 0 ∧ g.pr b) ∧ ∃ c el, w.heap[b]? = some (.cells c el (0, 0)) ∧ cs.length = c.size ∧ ∀ j (h : j < cs.length) (h' : j < c.size), VR g w cs[j] c[j]
  | .grow e => (g.lim b = e ∧ ¬ g.pr b) ∧ ∃ c el, w.heap[b]? = some (.cells c el (0, 0))
  | .iter s pos => (g.lim b = 0 ∧ ¬ g.pr b) ∧ w.heap[b]? = some (.stringIter s pos)
  | .amap es => (g.lim b = 0 ∧ ¬ g.pr b) ∧ ∃ (me : Array MapEntry) (clock : Nat), w.heap[b]? = some (.map me clock) ∧ es.length = me.size ∧
      ∀ j (h : j < es.length) (h' : j < me.size), es[j].1 = me[j].key ∧ VR g w es[j].2 me[j].val

structure Inv (g : Ghost) (w : World) (H : AHeap) : Prop where
  base_le : g.base ≤ w.heap.size
  fresh : ∀ b, w.heap.size ≤ b → g.lim b = 0 ∧ ¬ g.pr b
  obj : ∀ b o, H b = some o → g.base ≤ b ∧ ObjOk g w b o

structure Ext (g : Ghost) (w : World) (g' : Ghost) (w' : World) : Prop where
  base : g'.base = g.base
  os : w'.os = w.os
  tape : w'.tape = w.tape
  output : w'.output = w.output
  size : w.heap.size ≤ w'.heap.size
  old : ∀ b, b < g.base → w'.heap[b]? = w.heap[b]?
  lim : ∀ b, g.lim b ≤ g'.lim b
  cells : ∀ b o, o < g.lim b → w'.cell? ⟨b, o, none⟩ = w.cell? ⟨b, o, none⟩
  shape : ∀ b, b < w.heap.size → w'.shape? b = w.shape? b
  pr : g'.pr = g.pr
  same : ∀ b, g.pr b → w'.heap[b]? = w.heap[b]?

theorem Ext.refl (g : Ghost) (w : World) : Ext g w g w := ⟨rfl, rfl, rfl, rfl, Nat.le_refl _, fun _ _ => rfl, fun _ => Nat.le_refl _, fun _ _ _ => rfl, fun _ _ => rfl, rfl, fun _ _ => rfl⟩
theorem Ext.trans {g g1 g2 : Ghost} {w w1 w2 : World} (h : Ext g w g1 w1) (k : Ext g1 w1 g2 w2) : Ext g w g2 w2 :=
  ⟨k.base.trans h.base, k.os.trans h.os, k.tape.trans h.tape, k.output.trans h.output, Nat.le_trans h.size k.size,
   fun b hb => (k.old b (by rw [h.base]; exact hb)).trans (h.old b hb), fun b => Nat.le_trans (h.lim b) (k.lim b),
   fun b o ho => (k.cells b o (Nat.lt_of_lt_of_le ho (h.lim b))).trans (h.cells b o ho),
   fun b hb => (k.shape b (Nat.lt_of_lt_of_le hb h.size)).trans (h.shape b hb), k.pr.trans h.pr, fun b hb => (k.same b (by rw [h.pr]; exact hb)).trans (h.same b hb)⟩

theorem Ext.imm {g g' : Ghost} {w w' : World} (h : Ext g w g' w') {b e : Nat} (hi : g.imm b e) : g'.imm b e := by
  rcases hi with hi | hi
  · exact .inl (by rw [h.base]; exact hi)
  · exact .inr (Nat.le_trans hi (h.lim b))

theorem Ext.cell {g g' : Ghost} {w w' : World} (h : Ext g w g' w') {b e o : Nat} (hi : g.imm b e) (ho : o < e) : w'.cell? ⟨b, o, none⟩ = w.cell? ⟨b, o, none⟩ := by
  rcases hi with hi | hi
  · unfold World.cell?
    simp only [h.old b hi]
  · exact h.cells b o (by omega)

theorem Ext.hasRow {g g' : Ghost} {w w' : World} (h : Ext g w g' w') {b m : Nat} (hr : hasRow w b m) : hasRow w' b m := by
  obtain ⟨el, n, hs, hn⟩ := hr
  have hb : b < w.heap.size := by
    rcases Nat.lt_or_ge b w.heap.size with h' | h'
    · exact h'
    · simp [World.shape?, Array.getElem?_eq_none h'] at hs
  exact ⟨el, n, by rw [h.shape b hb]; exact hs, hn⟩

theorem VR.mono {g g' : Ghost} {w w' : World} (h : Ext g w g' w') {v : AVal} {cv : Value} (hv : VR g w v cv) : VR g' w' v cv := by
  induction hv with
  | sc hp => exact .sc hp
  | ptr => exact .ptr
  | ept cv hi hc _ ih => exact .ept cv (h.imm hi) (fun j hj => (h.cell hi (by omega)).trans (hc j hj)) ih
  | nil => exact .nil
  | nil' => exact .nil'
  | zero => exact .zero
  | zero' => exact .zero'
  | @sl xs own b o es cap cv hl hi hcap hmx hrow hown hc _ ih =>
    refine .sl cv hl (h.imm hi) hcap hmx (h.hasRow hrow) ?_ (fun i hi' j hj => (h.cell hi ?_).trans (hc i hi' j hj)) ih
    · cases own with
      | no => trivial
      | full => exact hown
      | tok b' e' s' => exact ⟨hown.1, hown.2.1, hown.2.2.1, by rw [h.base]; exact hown.2.2.2⟩
    · have := hl i hi'
      have h1 : (i + 1) * es ≤ xs.length * es := Nat.mul_le_mul_right _ hi'
      have h2 : (i + 1) * es = i * es + es := Nat.succ_mul i es
      omega
  | row => exact .row
  | clo h1 h2 _ _ ih1 ih2 => exact .clo h1 h2 ih1 ih2
  | agg h1 _ ih => exact .agg h1 ih
  | tup h1 _ ih => exact .tup h1 ih
  | mapv => exact .mapv

/-! ### A value that knows less -/
inductive Wk : AVal → AVal → Prop where
  | refl (v : AVal) : Wk v v
  | sl (xs : List (List AVal)) (o : Own) : Wk (.sl xs o) (.sl xs .no)
  | sls {xs ys : List (List AVal)} {o : Own} : xs.length = ys.length → (∀ i (h : i < xs.length) (h' : i < ys.length), xs[i].length = ys[i].length) →
      (∀ i (h : i < xs.length) (h' : i < ys.length) j (k : j < xs[i].length) (k' : j < ys[i].length), Wk xs[i][j] ys[i][j]) → Wk (.sl xs o) (.sl ys .no)
  | agg {xs ys : List AVal} : xs.length = ys.length → (∀ j (h : j < xs.length) (h' : j < ys.length), Wk xs[j] ys[j]) → Wk (.agg xs) (.agg ys)
  | tup {xs ys : List AVal} : xs.length = ys.length → (∀ j (h : j < xs.length) (h' : j < ys.length), Wk xs[j] ys[j]) → Wk (.tup xs) (.tup ys)

theorem VR.wk {g : Ghost} {w : World} {v v' : AVal} (hw : Wk v v') : ∀ {cv : Value}, VR g w v cv → VR g w v' cv := by
  induction hw with
  | refl => exact fun h => h
  | sl xs o =>
    intro cv h
    cases h with
    | nil => exact .nil'
    | nil' => exact .nil'
    | zero => exact .zero'
    | zero' => exact .zero'
    | sl cv h1 h2 h3 h4 h5 h6 h7 h8 => exact .sl cv h1 h2 h3 h4 h5 trivial h7 h8
  | @sls xs ys o hl hll _ ih =>
    intro cv h
    have nil : xs = [] → ys = [] := fun e => List.length_eq_zero_iff.1 (by rw [← hl, e]; rfl)
    cases h with
    | nil => rw [nil rfl]; exact .nil'
    | nil' => rw [nil rfl]; exact .nil'
    | zero => rw [nil rfl]; exact .zero'
    | zero' => rw [nil rfl]; exact .zero'
    | sl cv h1 h2 h3 h4 h5 h6 h7 h8 =>
      rw [hl] at h2 h3 h4 ⊢
      exact .sl cv (fun i hi => by rw [← hll i (by omega) hi]; exact h1 i (by omega)) h2 h3 h4 h5 trivial
        (fun i hi j hj => h7 i (by omega) j (by rw [hll i (by omega) hi]; exact hj)) (fun i hi j hj => ih i (by omega) hi j (by rw [hll i (by omega) hi]; exact hj) hj (h8 i (by omega) j _))
  | agg hl _ ih =>
    intro cv h
    cases h with
    | agg h1 h2 => exact .agg (hl ▸ h1) (fun j hj hj' => ih j (by omega) hj (h2 j (by omega) hj'))
  | tup hl _ ih =>
    intro cv h
    cases h with
    | tup h1 h2 => exact .tup (hl ▸ h1) (fun j hj hj' => ih j (by omega) hj (h2 j (by omega) hj'))

theorem Wk.trans {a b : AVal} (h : Wk a b) : ∀ {c : AVal}, Wk b c → Wk a c := by
  induction h with
  | refl => exact fun h => h
  | sl xs o =>
    intro c k
    cases k with
    | refl => exact .sl _ _
    | sl => exact .sl _ _
    | sls h1 h2 h3 => exact .sls h1 h2 h3
  | @sls xs ys o hl hll h1 ih =>
    intro c k
    cases k with
    | refl => exact .sls hl hll h1
    | sl => exact .sls hl hll h1
    | sls g1 g2 g3 => exact .sls (hl.trans g1) (fun i h h' => (hll i h (by omega)).trans (g2 i (by omega) h')) (fun i h h' j k k' => ih i h (by omega) j k (by rw [← hll i h (by omega)]; exact k) (g3 i (by omega) h' j _ k'))
  | agg hl h1 ih =>
    intro c k
    cases k with
    | refl => exact .agg hl h1
    | agg hl2 h2 => exact .agg (hl.trans hl2) (fun j h h' => ih j h (by omega) (h2 j (by omega) h'))
  | tup hl h1 ih =>
    intro c k
    cases k with
    | refl => exact .tup hl h1
    | tup hl2 h2 => exact .tup (hl.trans hl2) (fun j h h' => ih j h (by omega) (h2 j (by omega) h'))
/-- Cells that know less. -/
inductive HWk : HObj → HObj → Prop where
  | refl (o : HObj) : HWk o o
  | cells {xs ys : List AVal} : Wk (.agg xs) (.agg ys) → HWk (.cells xs) (.cells ys)
  | ro {xs ys : List AVal} : Wk (.agg xs) (.agg ys) → HWk (.ro xs) (.ro ys)
theorem HWk.trans {a b c : HObj} (h : HWk a b) (k : HWk b c) : HWk a c := by
  cases h with
  | refl => exact k
  | cells h1 =>
    cases k with
    | refl => exact .cells h1
    | cells h2 => exact .cells (h1.trans h2)
  | ro h1 =>
    cases k with
    | refl => exact .ro h1
    | ro h2 => exact .ro (h1.trans h2)
theorem ObjOk.wk {g : Ghost} {w : World} {b : Nat} {o o' : HObj} (h : ObjOk g w b o) (k : HWk o o') : ObjOk g w b o' := by
  cases k with
  | refl => exact h
  | cells hw =>
    obtain ⟨h1, c, el, h2, h3, h4⟩ := h
    have := (VR.agg (g := g) (w := w) h3 h4).wk hw
    cases this with
    | agg a1 a2 => exact ⟨h1, c, el, h2, a1, a2⟩
  | ro hw =>
    obtain ⟨h1, c, el, h2, h3, h4⟩ := h
    have := (VR.agg (g := g) (w := w) h3 h4).wk hw
    cases this with
    | agg a1 a2 => exact ⟨h1, c, el, h2, a1, a2⟩

/-- Heaps that know less. -/
def AHeap.sub (H H' : AHeap) : Prop := ∀ b o, H b = some o → ∃ o', H' b = some o' ∧ HWk o' o
theorem AHeap.sub_refl (H : AHeap) : H.sub H := fun _ o h => ⟨o, h, .refl o⟩
theorem AHeap.sub_trans {H H1 H2 : AHeap} (h : H.sub H1) (k : H1.sub H2) : H.sub H2 := fun b o hb =>
  let ⟨o1, h1, w1⟩ := h b o hb; let ⟨o2, h2, w2⟩ := k b o1 h1; ⟨o2, h2, w2.trans w1⟩
theorem AHeap.sub_put {H H' : AHeap} (h : H.sub H') {b : Nat} (o : HObj) (hb : H b = none) : H.sub (H'.put b o) := fun x p hx => by
  by_cases e : x = b
  · subst e; rw [hb] at hx; cases hx
  · rw [put_ne e]; exact h x p hx
theorem AHeap.put_sub_wk {H H' : AHeap} (h : H.sub H') (b : Nat) {o o' : HObj} (hw : HWk o' o) : (H.put b o).sub (H'.put b o') := fun x p hx => by
  by_cases e : x = b
  · subst e; rw [put_same] at hx; cases hx; exact ⟨o', put_same _ _ _, hw⟩
  · rw [put_ne e] at hx ⊢; exact h x p hx
theorem AHeap.put_sub {H H' : AHeap} (h : H.sub H') (b : Nat) (o : HObj) : (H.put b o).sub (H'.put b o) := AHeap.put_sub_wk h b (.refl o)
theorem AHeap.del_sub {H H' : AHeap} (h : H.sub H') (b : Nat) : (H.del b).sub H' := fun x p hx => by
  unfold AHeap.del at hx
  split at hx
  · cases hx
  · exact h x p hx
theorem Inv.sub {g : Ghost} {w : World} {H H' : AHeap} (h : Inv g w H') (hs : H.sub H') : Inv g w H :=
  ⟨h.base_le, h.fresh, fun b o hb => let ⟨o', h1, h2⟩ := hs b o hb; ⟨(h.obj b o' h1).1, (h.obj b o' h1).2.wk h2⟩⟩

theorem ObjOk.lt {g : Ghost} {w : World} {b : Nat} {o : HObj} (h : ObjOk g w b o) : b < w.heap.size := by
  cases o with
  | cells cs => obtain ⟨_, c, el, h, _⟩ := h; exact (Array.getElem?_eq_some_iff.1 h).1
  | ro cs => obtain ⟨_, c, el, h, _⟩ := h; exact (Array.getElem?_eq_some_iff.1 h).1
  | grow e => obtain ⟨_, c, el, h⟩ := h; exact (Array.getElem?_eq_some_iff.1 h).1
  | amap es => obtain ⟨_, c, el, h, _⟩ := h; exact (Array.getElem?_eq_some_iff.1 h).1
  | iter s pos => exact (Array.getElem?_eq_some_iff.1 h.2).1
theorem Inv.lt {g : Ghost} {w : World} {H : AHeap} (h : Inv g w H) {b : Nat} {o : HObj} (hb : H b = some o) : b < w.heap.size := (h.obj b o hb).2.lt
theorem Inv.size_fresh {g : Ghost} {w : World} {H : AHeap} (h : Inv g w H) : H w.heap.size = none := by
  cases hb : H w.heap.size with
  | none => rfl
  | some o => have := h.lt hb; omega

/-! ### Frames -/
abbrev Fr := List (Nat × AVal)
def Fr.get : Fr → Nat → Option AVal
  | [], _ => none
  | (d, v) :: F, t => bif Nat.beq d t then some v else Fr.get F t
def Fr.drop : Fr → Nat → Fr
  | [], _ => []
  | (d, v) :: F, t => bif Nat.beq d t then Fr.drop F t else (d, v) :: Fr.drop F t
def Fr.put (F : Fr) (dst : Option Tmp) (v : AVal) : Fr := match dst with | some d => (d, v) :: F | none => F
structure FR (g : Ghost) (w : World) (n : Nat) (F : Fr) (a : Act) : Prop where
  size : a.tmps.size = n
  defers : a.defers = []
  slot : ∀ t v, F.get t = some v → ∃ cv, a.tmps[t]? = some cv ∧ VR g w v cv

theorem FR.mono {g g' : Ghost} {w w' : World} (h : Ext g w g' w') {n : Nat} {F : Fr} {a : Act} (k : FR g w n F a) : FR g' w' n F a :=
  ⟨k.size, k.defers, fun t v ht => let ⟨cv, h1, h2⟩ := k.slot t v ht; ⟨cv, h1, h2.mono h⟩⟩

theorem FR.put {g : Ghost} {w : World} {n : Nat} {F : Fr} {a : Act} (k : FR g w n F a) {dst : Option Tmp} {v : AVal} {cv : Value} (hd : ∀ d, dst = some d → d < n) (hv : VR g w v cv) :
    FR g w n (F.put dst v) (a.put dst cv) := by
  cases dst with
  | none => exact k
  | some d =>
    refine ⟨by simpa [Act.put] using k.size, k.defers, fun t u ht => ?_⟩
    have hdn := hd d rfl
    have hs := k.size
    simp only [Fr.put, Fr.get] at ht
    cases hx : Nat.beq d t with
    | true =>
      have := Nat.eq_of_beq_eq_true hx
      subst this
      rw [hx] at ht
      cases ht
      exact ⟨cv, by simp [Act.put, hs, hdn], hv⟩
    | false =>
      rw [hx] at ht
      obtain ⟨c, h1, h2⟩ := k.slot t u ht
      have hne : d ≠ t := fun e => by rw [e, Nat.beq_refl] at hx; cases hx
      exact ⟨c, by simp only [Act.put]; rw [Array.getElem?_setIfInBounds_ne hne]; exact h1, h2⟩

/-- A frame that knows less. -/
def Fr.sub (F F' : Fr) : Prop := ∀ t v, F.get t = some v → ∃ v', F'.get t = some v' ∧ Wk v' v
theorem FR.sub {g : Ghost} {w : World} {n : Nat} {F F' : Fr} {a : Act} (k : FR g w n F' a) (h : F.sub F') : FR g w n F a :=
  ⟨k.size, k.defers, fun t v ht => let ⟨v', h1, h2⟩ := h t v ht; let ⟨cv, h3, h4⟩ := k.slot t v' h1; ⟨cv, h3, h4.wk h2⟩⟩
theorem Fr.sub_refl (F : Fr) : F.sub F := fun t v h => ⟨v, h, .refl v⟩
theorem Fr.sub_nil (F : Fr) : Fr.sub [] F := fun t v h => by cases h
theorem Fr.sub_cons_wk {F F' : Fr} {d : Nat} {v v' : AVal} (h : F'.get d = some v') (hw : Wk v' v) (k : F.sub F') : Fr.sub ((d, v) :: F) F' := fun t u ht => by
  simp only [Fr.get] at ht
  cases hx : Nat.beq d t with
  | true => rw [hx] at ht; cases ht; rw [← Nat.eq_of_beq_eq_true hx]; exact ⟨v', h, hw⟩
  | false => rw [hx] at ht; exact k t u ht
theorem Fr.sub_cons {F F' : Fr} {d : Nat} {v : AVal} (h : F'.get d = some v) (k : F.sub F') : Fr.sub ((d, v) :: F) F' := Fr.sub_cons_wk h (.refl v) k

end Abs
end Go.Proofs.Ytbldnaflffmddaa

set_option linter.unusedVariables false
namespace Go.Proofs.Ytbldnaflffmddaa
namespace Abs
open Go.RowKit

/-! ### What the machine does, seen from the abstract state -/
abbrev APost := Fr → AHeap → Prop
abbrev AQ := Exit → Fr → AHeap → Prop

def AOp (P : Program) (n : Nat) (ops : Array Oper) (o : Oper) (F : Fr) (H : AHeap) (K : APost) : Prop :=
  ∀ g a w (Q : Exit → Act → World → Prop) (Kc : Act → World → Prop), Inv g w H → FR g w n F a →
    (∀ g' a' w' F' H', Ext g w g' w' → Inv g' w' H' → FR g' w' n F' a' → K F' H' → Kc a' w') →
    if Region.wanted o (yielded ops a.tmps) then o.wp P a w Kc Q ∨ (o.asks P a w ∧ LetsOut Q) else Kc (a.put o.dst undef) w

def AOps (P : Program) (n : Nat) (ops : Array Oper) (l : List Oper) (F : Fr) (H : AHeap) (K : APost) : Prop :=
  ∀ g a w (Q : Exit → Act → World → Prop), Inv g w H → FR g w n F a →
    (∀ g' a' w' F' H', Ext g w g' w' → Inv g' w' H' → FR g' w' n F' a' → K F' H' → Q .normal a' w') → wpList P ops Q l a w

def AW (P : Program) (n : Nat) (c : Code) (F : Fr) (H : AHeap) (Q : AQ) : Prop :=
  ∀ g a w (Qc : Exit → Act → World → Prop), Inv g w H → FR g w n F a →
    (∀ e g' a' w' F' H', Ext g w g' w' → Inv g' w' H' → FR g' w' n F' a' → Q e F' H' → Qc e a' w') → c.wp P Qc a w

def ACalls (P : Program) (f : FuncId) (args : List AVal) (H : AHeap) (K : AVal → AHeap → Prop) : Prop :=
  ∀ g w (cargs : Array Value), Inv g w H → args.length = cargs.size → (∀ j (h : j < args.length) (h' : j < cargs.size), VR g w args[j] cargs[j]) →
    Calls P f cargs w (fun e w' => ∃ cv g' v H', e = .returned cv ∧ Ext g w g' w' ∧ Inv g' w' H' ∧ VR g' w' v cv ∧ K v H')

section
variable {P : Program} {n : Nat} {ops : Array Oper} {F F' : Fr} {H H' : AHeap}

theorem AOps_nil {K : APost} (h : K F H) : AOps P n ops [] F H K := fun g a w Q hi hf hk => hk g a w F H (Ext.refl _ _) hi hf h
theorem AOps_cons {o : Oper} {rest : List Oper} {K : APost} (h : AOp P n ops o F H (fun F' H' => AOps P n ops rest F' H' K)) : AOps P n ops (o :: rest) F H K := fun g a w Q hi hf hk =>
  h g a w Q (wpList P ops Q rest) hi hf fun g1 a1 w1 F1 H1 e1 i1 f1 k1 => k1 g1 a1 w1 Q i1 f1 fun g2 a2 w2 F2 H2 e2 i2 f2 k2 => hk g2 a2 w2 F2 H2 (e1.trans e2) i2 f2 k2
theorem AOps_sub {l : List Oper} {K : APost} (h : AOps P n ops l F H K) (hF : F.sub F') (hH : H.sub H') : AOps P n ops l F' H' K :=
  fun g a w Q hi hf hk => h g a w Q (hi.sub hH) (hf.sub hF) hk
theorem AOps_mono {l : List Oper} {K K' : APost} (h : AOps P n ops l F H K) (hk : ∀ F H, K F H → K' F H) : AOps P n ops l F H K' :=
  fun g a w Q hi hf hk' => h g a w Q hi hf fun g1 a1 w1 F1 H1 e1 i1 f1 k1 => hk' g1 a1 w1 F1 H1 e1 i1 f1 (hk _ _ k1)
theorem AW_mono {c : Code} {Q Q' : AQ} (h : AW P n c F H Q) (hq : ∀ e F H, Q e F H → Q' e F H) : AW P n c F H Q' :=
  fun g a w Qc hi hf hk => h g a w Qc hi hf fun e g1 a1 w1 F1 H1 e1 i1 f1 k1 => hk e g1 a1 w1 F1 H1 e1 i1 f1 (hq _ _ _ k1)
theorem AW_sub {c : Code} {Q : AQ} (h : AW P n c F H Q) (hF : F.sub F') (hH : H.sub H') : AW P n c F' H' Q :=
  fun g a w Qc hi hf hk => h g a w Qc (hi.sub hH) (hf.sub hF) hk

def thenQ (K : APost) (Q : AQ) : AQ
  | .normal, F, H => K F H
  | e, F, H => Q e F H
def inBlk (id : Nat) (Q : AQ) : AQ
  | .exit id', F, H => if id' = id then Q .normal F H else Q (.exit id') F H
  | e, F, H => Q e F H
def noGoto (Q : AQ) : AQ
  | .goto _, _, _ => False
  | e, F, H => Q e F H

theorem aw_seq {x y : Code} {Q : AQ} (h : AW P n x F H (thenQ (fun F' H' => AW P n y F' H' Q) Q)) : AW P n (.seq x y) F H Q := fun g a w Qc hi hf hk =>
  wp_seq (h g a w _ hi hf fun e g1 a1 w1 F1 H1 e1 i1 f1 k1 => by
    cases e with
    | normal => exact k1 g1 a1 w1 Qc i1 f1 fun e g2 a2 w2 F2 H2 e2 i2 f2 k2 => hk e g2 a2 w2 F2 H2 (e1.trans e2) i2 f2 k2
    | exit id => exact hk _ g1 a1 w1 F1 H1 e1 i1 f1 k1
    | goto l => exact hk _ g1 a1 w1 F1 H1 e1 i1 f1 k1
    | ret => exact hk _ g1 a1 w1 F1 H1 e1 i1 f1 k1
    | panic ch => exact hk _ g1 a1 w1 F1 H1 e1 i1 f1 k1
    | outgrown => exact hk _ g1 a1 w1 F1 H1 e1 i1 f1 k1)
theorem aw_skip {Q : AQ} (h : Q .normal F H) : AW P n .skip F H Q := fun g a w Qc hi hf hk => wp_skip (hk _ g a w F H (Ext.refl _ _) hi hf h)
theorem aw_exit {id : Nat} {Q : AQ} (h : Q (.exit id) F H) : AW P n (.exit id) F H Q := fun g a w Qc hi hf hk => wp_exit (hk _ g a w F H (Ext.refl _ _) hi hf h)
theorem aw_ret {Q : AQ} (h : Q .ret F H) : AW P n .ret F H Q := fun g a w Qc hi hf hk => wp_ret (hk _ g a w F H (Ext.refl _ _) hi hf h)
theorem aw_block {id : Nat} {c : Code} {Q : AQ} (h : AW P n c F H (inBlk id Q)) : AW P n (.block id c) F H Q := fun g a w Qc hi hf hk =>
  wp_block (h g a w _ hi hf fun e g1 a1 w1 F1 H1 e1 i1 f1 k1 => by
    cases e with
    | normal => exact hk _ g1 a1 w1 F1 H1 e1 i1 f1 k1
    | exit id' =>
      simp only [inBlk] at k1
      simp only [Exit.inBlock]
      split
      · rename_i he; rw [if_pos he] at k1; exact hk _ g1 a1 w1 F1 H1 e1 i1 f1 k1
      · rename_i he; rw [if_neg he] at k1; exact hk _ g1 a1 w1 F1 H1 e1 i1 f1 k1
    | goto l => exact hk _ g1 a1 w1 F1 H1 e1 i1 f1 k1
    | ret => exact hk _ g1 a1 w1 F1 H1 e1 i1 f1 k1
    | panic ch => exact hk _ g1 a1 w1 F1 H1 e1 i1 f1 k1
    | outgrown => exact hk _ g1 a1 w1 F1 H1 e1 i1 f1 k1)
theorem aw_region {id : Nat} {l : List Oper} {Q : AQ} (h : AOps P n l.toArray l F H (fun F' H' => Q .normal F' H')) : AW P n (.region id l.toArray false) F H Q := fun g a w Qc hi hf hk =>
  wp_region_lit (h g a w _ hi hf fun g1 a1 w1 F1 H1 e1 i1 f1 k1 => hk _ g1 a1 w1 F1 H1 e1 i1 f1 k1)

/-- A loop: s is what a round begins with. -/
theorem aw_loop {σ : Type} {c : Code} {Q : AQ} (I : σ → Prop) (fr : σ → Fr) (hp : σ → AHeap) (m : σ → Nat) (s0 : σ) (hI : I s0) (hF : (fr s0).sub F) (hH : (hp s0).sub H)
    (round : ∀ s, I s → AW P n c (fr s) (hp s) (thenQ (fun F' H' => ∃ s', I s' ∧ m s' < m s ∧ (fr s').sub F' ∧ (hp s').sub H') Q)) : AW P n (.loop c) F H Q := fun g a w Qc hi hf hk => by
  have key : ∀ k, ∀ g' a' w' s, m s ≤ k → Ext g w g' w' → I s → Inv g' w' (hp s) → FR g' w' n (fr s) a' → Code.rounds P c Qc (k + 1) a' w' := by
    intro k
    induction k with
    | zero =>
      intro g' a' w' s hm he hs hi' hf'
      rw [rounds_succ]
      refine round s hs g' a' w' _ hi' hf' (fun e g1 a1 w1 F1 H1 e1 i1 f1 k1 => ?_)
      cases e with
      | normal => obtain ⟨s', hs', hlt, _⟩ := k1; omega
      | exit id => exact hk _ g1 a1 w1 F1 H1 (he.trans e1) i1 f1 k1
      | goto l => exact hk _ g1 a1 w1 F1 H1 (he.trans e1) i1 f1 k1
      | ret => exact hk _ g1 a1 w1 F1 H1 (he.trans e1) i1 f1 k1
      | panic ch => exact hk _ g1 a1 w1 F1 H1 (he.trans e1) i1 f1 k1
      | outgrown => exact hk _ g1 a1 w1 F1 H1 (he.trans e1) i1 f1 k1
    | succ k ih =>
      intro g' a' w' s hm he hs hi' hf'
      rw [rounds_succ]
      refine round s hs g' a' w' _ hi' hf' (fun e g1 a1 w1 F1 H1 e1 i1 f1 k1 => ?_)
      cases e with
      | normal =>
        obtain ⟨s', hs', hlt, hF', hH'⟩ := k1
        exact ih g1 a1 w1 s' (by omega) (he.trans e1) hs' (i1.sub hH') (f1.sub hF')
      | exit id => exact hk _ g1 a1 w1 F1 H1 (he.trans e1) i1 f1 k1
      | goto l => exact hk _ g1 a1 w1 F1 H1 (he.trans e1) i1 f1 k1
      | ret => exact hk _ g1 a1 w1 F1 H1 (he.trans e1) i1 f1 k1
      | panic ch => exact hk _ g1 a1 w1 F1 H1 (he.trans e1) i1 f1 k1
      | outgrown => exact hk _ g1 a1 w1 F1 H1 (he.trans e1) i1 f1 k1
  exact wp_loop_rounds (m s0 + 1) (key (m s0) g a w s0 (Nat.le_refl _) (Ext.refl _ _) hI (hi.sub hH) (hf.sub hF))

theorem aw_scope {c : Code} {Q : AQ} (h : AW P n c F H (noGoto Q)) : AW P n (.scope c) F H Q := fun g a w Qc hi hf hk =>
  wp_scope_straight (h g a w _ hi hf fun e g1 a1 w1 F1 H1 e1 i1 f1 k1 => by
    cases e with
    | normal => exact hk _ g1 a1 w1 F1 H1 e1 i1 f1 k1
    | exit id => exact hk _ g1 a1 w1 F1 H1 e1 i1 f1 k1
    | goto l => exact k1.elim
    | ret => exact hk _ g1 a1 w1 F1 H1 e1 i1 f1 k1
    | panic ch => exact hk _ g1 a1 w1 F1 H1 e1 i1 f1 k1
    | outgrown => exact hk _ g1 a1 w1 F1 H1 e1 i1 f1 k1)

/-! ### Operands -/
def plainB : Value → Bool
  | .bool _ | .int _ _ | .float _ _ | .complex _ _ _ | .string _ | .pointer none | .map none | .chan none | .nilFunc | .nilIface => true
  | _ => false
theorem plain_of_B {v : Value} (h : plainB v = true) : Plain v := by
  cases v <;> first | trivial | (cases h) | skip
  case pointer a => cases a <;> first | trivial | cases h
  case map a => cases a <;> first | trivial | cases h
  case chan a => cases a <;> first | trivial | cases h
def absS : Value → Option AVal
  | .slice none 0 0 => some (.sl [] .full)
  | v => bif plainB v then some (.sc v) else none
def absL : List Value → Option (List AVal)
  | [] => some []
  | v :: vs => match absS v, absL vs with | some x, some xs => some (x :: xs) | _, _ => none
def absV : Value → Option AVal
  | .agg cs => (absL cs.toList).map .agg
  | v => absS v
theorem absS_ok {g : Ghost} {w : World} {v : Value} {x : AVal} (h : absS v = some x) : VR g w x v := by
  unfold absS at h
  split at h
  · cases h; exact .nil
  · cases hp : plainB v with
    | true => rw [hp] at h; cases h; exact .sc (plain_of_B hp)
    | false => rw [hp] at h; cases h
theorem absL_ok {g : Ghost} {w : World} : ∀ {vs : List Value} {xs : List AVal}, absL vs = some xs → xs.length = vs.length ∧ ∀ j (h : j < xs.length) (h' : j < vs.length), VR g w xs[j] vs[j]
  | [], xs, h => by cases h; exact ⟨rfl, fun j h => absurd h (Nat.not_lt_zero _)⟩
  | v :: vs, xs, h => by
    simp only [absL] at h
    split at h
    · rename_i x ys hx hy
      cases h
      obtain ⟨h1, h2⟩ := absL_ok (g := g) (w := w) hy
      refine ⟨by simp [h1], fun j hj hj' => ?_⟩
      cases j with
      | zero => exact absS_ok hx
      | succ j => exact h2 j (by simpa using hj) (by simpa using hj')
    · cases h
theorem absV_ok {g : Ghost} {w : World} {v : Value} {x : AVal} (h : absV v = some x) : VR g w x v := by
  unfold absV at h
  split at h
  · rename_i cs
    cases hl : absL cs.toList with
    | none => rw [hl] at h; cases h
    | some xs =>
      rw [hl] at h; cases h
      obtain ⟨h1, h2⟩ := absL_ok (g := g) (w := w) hl
      exact .agg (by simpa using h1) (fun j hj hj' => by have := h2 j hj (by simpa using hj'); simpa using this)
  · exact absS_ok h

def opd (F : Fr) : Operand → Option AVal
  | .tmp t => F.get t
  | .const v => absV v
  | .func f => some (.clo f [] [])
  | .global _ => none

theorem FR.opd {g : Ghost} {w : World} {n : Nat} {F : Fr} {a : Act} (k : FR g w n F a) {x : Operand} {v : AVal} (h : opd F x = some v) : VR g w v (a.eval x) := by
  cases x with
  | tmp t =>
    obtain ⟨cv, h1, h2⟩ := k.slot t v h
    have : a.eval (.tmp t) = cv := by simp [Act.eval, h1]
    rw [this]; exact h2
  | const c => exact absV_ok h
  | global i => cases h
  | func f => cases h; exact .clo rfl rfl (fun j h => absurd h (Nat.not_lt_zero _)) (fun j h => absurd h (Nat.not_lt_zero _))

def opds (F : Fr) : List Operand → Option (List AVal)
  | [] => some []
  | x :: xs => match opd F x, opds F xs with | some v, some vs => some (v :: vs) | _, _ => none
theorem FR.opds {g : Ghost} {w : World} {n : Nat} {F : Fr} {a : Act} (k : FR g w n F a) : ∀ {xs : List Operand} {vs : List AVal}, opds F xs = some vs →
    vs.length = xs.length ∧ ∀ j (h : j < vs.length) (h' : j < xs.length), VR g w vs[j] (a.eval xs[j])
  | [], vs, h => by cases h; exact ⟨rfl, fun j h => absurd h (Nat.not_lt_zero _)⟩
  | x :: xs, vs, h => by
    simp only [Abs.opds] at h
    split at h
    · rename_i u us hx hy
      cases h
      obtain ⟨h1, h2⟩ := FR.opds k hy
      refine ⟨by simp [h1], fun j hj hj' => ?_⟩
      cases j with
      | zero => exact k.opd hx
      | succ j => exact h2 j (by simpa using hj) (by simpa using hj')
    · cases h

/-! ### Branches -/
theorem aw_cond {c : Operand} {x y : Code} {Q : AQ} {t : Bool} (hc : opd F c = some (.sc (.bool t))) (hx : t = true → AW P n x F H Q) (hy : t = false → AW P n y F H Q) : AW P n (.cond c x y) F H Q :=
  fun g a w Qc hi hf hk => by
    have he : a.eval c = .bool t := by
      have hv := hf.opd hc
      generalize a.eval c = cv at hv ⊢
      cases hv with | sc _ => rfl
    cases t with
    | true => exact wp_cond_true he (hx rfl g a w Qc hi hf hk)
    | false => exact wp_cond_false he (hy rfl g a w Qc hi hf hk)

/-! ### Operations under no guard -/
def dstOk (n : Nat) : Option Tmp → Bool
  | some d => Nat.blt d n
  | none => true
theorem dstOk_lt {n : Nat} {dst : Option Tmp} (h : dstOk n dst = true) : ∀ d, dst = some d → d < n := fun d hd => by
  subst hd
  simpa [dstOk, Nat.blt_eq] using h

/-- What an operation that touches no memory leaves in its slot. -/
def Pures (P : Program) (n : Nat) (o : Oper) (F : Fr) (v : AVal) : Prop :=
  ∀ g a w, FR g w n F a → ∃ cv, (∀ w', (execOp a.eval o).run P w' = .ok (.value cv) w') ∧ VR g w v cv
/-- What an operation that reads leaves in its slot. -/
def Reads (P : Program) (n : Nat) (o : Oper) (F : Fr) (H : AHeap) (v : AVal) : Prop :=
  ∀ g a w, Inv g w H → FR g w n F a → ∃ cv, (execOp a.eval o).run P w = .ok (.value cv) w ∧ VR g w v cv
theorem Pures.reads {o : Oper} {v : AVal} (h : Pures P n o F v) : Reads P n o F H v := fun g a w hi hf => let ⟨cv, h1, h2⟩ := h g a w hf; ⟨cv, h1 w, h2⟩

theorem wanted_none {α : Prop} {β : Prop} {dst : Option Tmp} {op : Op} {ty : TypeId} {pos : String} {af : Array Edge} (y : Nat → Option Bool) :
    (if Region.wanted ⟨dst, op, ty, pos, af, none⟩ y = true then α else β) = α := if_pos rfl

theorem op_of_value {dst : Option Tmp} {op : Op} {ty : TypeId} {pos : String} {af : Array Edge} {K : APost} (hd : dstOk n dst = true)
    (h : ∀ g a w, Inv g w H → FR g w n F a → ∃ cv w' g' v H', (execOp a.eval ⟨dst, op, ty, pos, af, none⟩).run P w = .ok (.value cv) w' ∧ Ext g w g' w' ∧ Inv g' w' H' ∧ VR g' w' v cv ∧ K (F.put dst v) H') :
    AOp P n ops ⟨dst, op, ty, pos, af, none⟩ F H K := fun g a w Q Kc hi hf hk => by
  obtain ⟨cv, w', g', v, H', hr, he, hi', hv, hK⟩ := h g a w hi hf
  rw [wanted_none]
  refine .inl ?_
  unfold Oper.wp
  rw [hr, Oper.upon_value]
  exact hk g' _ w' _ H' he hi' ((hf.mono he).put (dstOk_lt hd) hv) hK

theorem op_of_skip {op : Op} {ty : TypeId} {pos : String} {af : Array Edge} {K : APost}
    (h : ∀ g a w, Inv g w H → FR g w n F a → ∃ w' g' H', (execOp a.eval ⟨none, op, ty, pos, af, none⟩).run P w = .ok .skip w' ∧ Ext g w g' w' ∧ Inv g' w' H' ∧ K F H') :
    AOp P n ops ⟨none, op, ty, pos, af, none⟩ F H K := fun g a w Q Kc hi hf hk => by
  obtain ⟨w', g', H', hr, he, hi', hK⟩ := h g a w hi hf
  rw [wanted_none]
  refine .inl ?_
  unfold Oper.wp
  rw [hr, Oper.upon_skip]
  exact hk g' _ w' _ H' he hi' (hf.mono he) hK

theorem op_of_reads {dst : Option Tmp} {op : Op} {ty : TypeId} {pos : String} {af : Array Edge} {K : APost} {v : AVal} (hd : dstOk n dst = true)
    (h : Reads P n ⟨dst, op, ty, pos, af, none⟩ F H v) (hK : K (F.put dst v) H) : AOp P n ops ⟨dst, op, ty, pos, af, none⟩ F H K :=
  op_of_value hd fun g a w hi hf => let ⟨cv, h1, h2⟩ := h g a w hi hf; ⟨cv, w, g, v, H, h1, Ext.refl _ _, hi, h2, hK⟩

/-! ### Guards -/
/-- What a guard says, as far as the frame knows. -/
def gval (ops : Array Oper) (F : Fr) : Option (Nat × Bool) → Option Bool
  | none => some true
  | some (j, want) => match (ops[j]?).bind (·.dst) with
    | some d => match F.get d with
      | some (.sc (.bool b)) => some (b == want)
      | some (.tup []) => some false
      | _ => none
    | none => none
theorem wanted_of {g : Ghost} {w : World} {a : Act} (hf : FR g w n F a) {o : Oper} {b : Bool} (h : gval ops F o.guard = some b) : Region.wanted o (yielded ops a.tmps) = b := by
  unfold Region.wanted
  cases hg : o.guard with
  | none => rw [hg] at h; cases h; rfl
  | some jw =>
    obtain ⟨j, want⟩ := jw
    rw [hg] at h
    simp only [gval] at h
    cases hd : (ops[j]?).bind (·.dst) with
    | none => rw [hd] at h; cases h
    | some d =>
      rw [hd] at h
      simp only at h
      cases hx : F.get d with
      | none => rw [hx] at h; cases h
      | some u =>
        rw [hx] at h
        obtain ⟨cv, h1, h2⟩ := hf.slot d u hx
        have hy : yielded ops a.tmps j = (match cv with | .bool b => some b | _ => none) := by
          simp only [yielded, hd, Option.bind_some, h1]
          cases cv <;> rfl
        show (yielded ops a.tmps j == some want) = b
        rw [hy]
        split at h
        · rename_i b' he
          cases he
          cases h2 with
          | sc _ => cases h; rfl
        · rename_i he
          cases he
          cases h2 with
          | tup _ _ => cases h; rfl
        · cases h

theorem VR.undef {g : Ghost} {w : World} : VR g w (.tup []) undef := .tup rfl (fun j h => absurd h (Nat.not_lt_zero _))
theorem op_guard_no {dst : Option Tmp} {op : Op} {ty : TypeId} {pos : String} {af : Array Edge} {gd : Option (Nat × Bool)} {K : APost} (hd : dstOk n dst = true) (hg : gval ops F gd = some false)
    (h : K (F.put dst (.tup [])) H) : AOp P n ops ⟨dst, op, ty, pos, af, gd⟩ F H K := fun g a w Q Kc hi hf hk => by
  have hw := wanted_of hf (o := ⟨dst, op, ty, pos, af, gd⟩) hg
  rw [if_neg (by rw [hw]; simp)]
  exact hk g _ w _ H (Ext.refl _ _) hi (hf.put (dstOk_lt hd) VR.undef) h
/-- A bool that the guards ask for: in each case it is written out. -/
theorem AOps_split {l : List Oper} {K : APost} (d : Nat) (b : Bool) (hx : F.get d = some (.sc (.bool b))) (ht : b = true → AOps P n ops l ((d, .sc (.bool true)) :: F) H K) (hf : b = false → AOps P n ops l ((d, .sc (.bool false)) :: F) H K) :
    AOps P n ops l F H K := by
  cases b with
  | true => exact AOps_sub (ht rfl) (Fr.sub_cons hx (Fr.sub_refl _)) (AHeap.sub_refl _)
  | false => exact AOps_sub (hf rfl) (Fr.sub_cons hx (Fr.sub_refl _)) (AHeap.sub_refl _)
end
end Abs
end Go.Proofs.Ytbldnaflffmddaa

set_option linter.unusedVariables false
namespace Go.Proofs.Ytbldnaflffmddaa
namespace Abs
open Go.RowKit

/-! ### A table of the types, as far as the code asks for them -/
def find {α : Type} : List (Nat × α) → Nat → Option α
  | [], _ => none
  | (d, v) :: l, t => bif Nat.beq d t then some v else find l t
theorem find_mem {α : Type} : ∀ {l : List (Nat × α)} {t : Nat} {v : α}, find l t = some v → (t, v) ∈ l
  | (d, u) :: l, t, v, h => by
    simp only [find] at h
    cases hx : Nat.beq d t with
    | true => rw [hx] at h; cases h; rw [Nat.eq_of_beq_eq_true hx]; exact List.mem_cons_self
    | false => rw [hx] at h; exact List.mem_cons_of_mem _ (find_mem h)

structure TT where
  size : List (Nat × Nat × Bool)
  flds : List (Nat × List (Nat × Nat))
  arr : List (Nat × Nat × Nat)
  slc : List (Nat × Nat × Nat × Nat)
  zero : List (Nat × List Value)
  ints : List (Nat × IntKind)
  ptrs : List (Nat × Unit)
  fns : List (Nat × Unit)
  strs : List (Nat × Unit)
  bools : List (Nat × Unit)
  maps : List (Nat × Nat × Nat)

def aggD : TypeDesc → Bool
  | .struct _ | .array _ _ => true
  | _ => false

def ttCheck (tt : TT) (P : Program) : Bool :=
  (tt.size.all fun e => (match P.info? e.1 with | some i => i.size == e.2.1 | none => false) && (match P.underlying e.1 with | some d => aggD d == e.2.2 | none => false)) &&
  ((tt.flds.all fun e => match P.underlying e.1 with | some (.struct fs) => (fs.toList.map fun f => (f.type, f.offset)) == e.2 && fs.toList.all (fun f => match P.info? f.type with | some i => i.size != 0 | none => false) | _ => false) &&
  ((tt.arr.all fun e => match P.underlying e.1 with | some (.array n d) => n == e.2.1 && d == e.2.2 | _ => false) &&
  ((tt.slc.all fun e => match P.underlying e.1 with | some (.slice d) => d == e.2.1 && (match P.info? d with | some i => (i.size == e.2.2.1 && i.bytes == e.2.2.2) && ((i.size != 0 && i.bytes != 0) && match i.zero with | some z => z.cells.size == i.size | none => false) | none => false) | _ => false) &&
  ((tt.ints.all fun e => match P.underlying e.1 with | some (.int k) => k == e.2 | _ => false) &&
  ((tt.ptrs.all fun e => match P.underlying e.1 with | some (.pointer _) => true | _ => false) &&
  ((tt.fns.all fun e => match P.underlying e.1 with | some (.func _ _ _) => true | _ => false) &&
  ((tt.strs.all fun e => match P.underlying e.1 with | some .string => true | _ => false) &&
  ((tt.bools.all fun e => match P.underlying e.1 with | some .bool => true | _ => false) &&
  (tt.maps.all fun e => match P.underlying e.1 with | some (.map k d) => k == e.2.1 && d == e.2.2 | _ => false)))))))))

/-- The zero values, each by its own equation (values have no decided equality). -/
def zerosOk (P : Program) : List (Nat × List Value) → Prop
  | [] => True
  | (t, zs) :: l => ((P.info? t).map fun i => i.zero.map fun v => v.cells.toList) = some (some zs) ∧ zerosOk P l
theorem zerosOk_find {P : Program} : ∀ {l : List (Nat × List Value)}, zerosOk P l → ∀ {t : Nat} {zs : List Value}, find l t = some zs → ((P.info? t).map fun i => i.zero.map fun v => v.cells.toList) = some (some zs)
  | (d, u) :: l, h, t, zs, hf => by
    simp only [find] at hf
    cases hx : Nat.beq d t with
    | true => rw [hx] at hf; cases hf; rw [← Nat.eq_of_beq_eq_true hx]; exact h.1
    | false => rw [hx] at hf; exact zerosOk_find h.2 hf

structure TTok (tt : TT) (P : Program) : Prop where
  chk : ttCheck tt P = true
  zro : zerosOk P tt.zero

section
variable {P : Program} {tt : TT}

theorem TTok.size (h : TTok tt P) {t k : Nat} {ag : Bool} (hf : find tt.size t = some (k, ag)) : ∃ i d, P.info? t = some i ∧ i.size = k ∧ P.underlying t = some d ∧ aggD d = ag := by
  have hc := h.chk
  simp only [ttCheck, Bool.and_eq_true, List.all_eq_true] at hc
  have := hc.1 _ (find_mem hf)
  simp only at this
  obtain ⟨h1, h2⟩ := this
  split at h1
  · rename_i i hi
    split at h2
    · rename_i d hd; exact ⟨i, d, hi, by simpa using h1, hd, by simpa using h2⟩
    · cases h2
  · cases h1
theorem TTok.flds (h : TTok tt P) {t : Nat} {l : List (Nat × Nat)} (hf : find tt.flds t = some l) : ∃ fs, P.underlying t = some (.struct fs) ∧ (fs.toList.map fun f => (f.type, f.offset)) = l ∧ ∀ f ∈ fs.toList, ∃ i, P.info? f.type = some i ∧ i.size ≠ 0 := by
  have hc := h.chk
  simp only [ttCheck, Bool.and_eq_true, List.all_eq_true] at hc
  have := hc.2.1 _ (find_mem hf)
  simp only at this
  split at this
  · rename_i fs hd
    simp only [Bool.and_eq_true, List.all_eq_true] at this
    refine ⟨fs, hd, by simpa using this.1, fun f hf => ?_⟩
    have h3 := this.2 f hf
    split at h3
    · rename_i i hi; exact ⟨i, hi, by simpa using h3⟩
    · cases h3
  · cases this
theorem TTok.arr (h : TTok tt P) {t n e : Nat} (hf : find tt.arr t = some (n, e)) : P.underlying t = some (.array n e) := by
  have hc := h.chk
  simp only [ttCheck, Bool.and_eq_true, List.all_eq_true] at hc
  have := hc.2.2.1 _ (find_mem hf)
  simp only at this
  split at this
  · rename_i n' d' hd; simp only [Bool.and_eq_true, beq_iff_eq] at this; rw [hd, this.1, this.2]
  · cases this
theorem TTok.slc (h : TTok tt P) {t e es eb : Nat} (hf : find tt.slc t = some (e, es, eb)) : P.underlying t = some (.slice e) ∧ ∃ i z, P.info? e = some i ∧ i.size = es ∧ i.bytes = eb ∧ 0 < es ∧ 0 < eb ∧ i.zero = some z ∧ z.cells.size = es := by
  have hc := h.chk
  simp only [ttCheck, Bool.and_eq_true, List.all_eq_true] at hc
  have := hc.2.2.2.1 _ (find_mem hf)
  simp only at this
  split at this
  · rename_i d hd
    simp only [Bool.and_eq_true, beq_iff_eq] at this
    obtain ⟨h1, h2⟩ := this
    subst h1
    refine ⟨hd, ?_⟩
    split at h2
    · rename_i i hi
      simp only [Bool.and_eq_true, beq_iff_eq, bne_iff_ne] at h2
      obtain ⟨⟨h3, h4⟩, ⟨h5, h6⟩, h7⟩ := h2
      split at h7
      · rename_i z hz; exact ⟨i, z, hi, h3, h4, by omega, by omega, hz, by rw [← h3]; simpa using h7⟩
      · cases h7
    · cases h2
  · cases this
theorem TTok.ints (h : TTok tt P) {t : Nat} {k : IntKind} (hf : find tt.ints t = some k) : P.underlying t = some (.int k) := by
  have hc := h.chk
  simp only [ttCheck, Bool.and_eq_true, List.all_eq_true] at hc
  have := hc.2.2.2.2.1 _ (find_mem hf)
  simp only at this
  split at this
  · rename_i d hd; rw [hd]; congr 2; simpa using this
  · cases this
theorem TTok.ptrs (h : TTok tt P) {t : Nat} {u : Unit} (hf : find tt.ptrs t = some u) : ∃ e, P.underlying t = some (.pointer e) := by
  have hc := h.chk
  simp only [ttCheck, Bool.and_eq_true, List.all_eq_true] at hc
  have := hc.2.2.2.2.2.1 _ (find_mem hf)
  simp only at this
  split at this
  · rename_i d hd; exact ⟨d, hd⟩
  · cases this
theorem TTok.fns (h : TTok tt P) {t : Nat} {u : Unit} (hf : find tt.fns t = some u) : ∃ a b c, P.underlying t = some (.func a b c) := by
  have hc := h.chk
  simp only [ttCheck, Bool.and_eq_true, List.all_eq_true] at hc
  have := hc.2.2.2.2.2.2.1 _ (find_mem hf)
  simp only at this
  split at this
  · rename_i d hd; exact ⟨_, _, _, hd⟩
  · cases this
theorem TTok.strs (h : TTok tt P) {t : Nat} {u : Unit} (hf : find tt.strs t = some u) : P.underlying t = some .string := by
  have hc := h.chk
  simp only [ttCheck, Bool.and_eq_true, List.all_eq_true] at hc
  have := hc.2.2.2.2.2.2.2.1 _ (find_mem hf)
  simp only at this
  split at this
  · rename_i hd; exact hd
  · cases this
theorem TTok.bools (h : TTok tt P) {t : Nat} {u : Unit} (hf : find tt.bools t = some u) : P.underlying t = some .bool := by
  have hc := h.chk
  simp only [ttCheck, Bool.and_eq_true, List.all_eq_true] at hc
  have := hc.2.2.2.2.2.2.2.2.1 _ (find_mem hf)
  simp only at this
  split at this
  · rename_i hd; exact hd
  · cases this
theorem TTok.maps (h : TTok tt P) {t k e : Nat} (hf : find tt.maps t = some (k, e)) : P.underlying t = some (.map k e) := by
  have hc := h.chk
  simp only [ttCheck, Bool.and_eq_true, List.all_eq_true] at hc
  have := hc.2.2.2.2.2.2.2.2.2 _ (find_mem hf)
  simp only at this
  split at this
  · rename_i n' d' hd; simp only [Bool.and_eq_true, beq_iff_eq] at this; rw [hd, this.1, this.2]
  · cases this
theorem TTok.zero (h : TTok tt P) {t : Nat} {zs : List Value} (hf : find tt.zero t = some zs) : ∃ i v, P.info? t = some i ∧ i.zero = some v ∧ v.cells.toList = zs := by
  have := zerosOk_find h.zro hf
  cases hi : P.info? t with
  | none => rw [hi] at this; cases this
  | some i =>
    rw [hi] at this
    cases hz : i.zero with
    | none => simp [hz] at this
    | some v => exact ⟨i, v, rfl, hz, by simpa [hz] using this⟩

theorem run_sizeOf' {t : TypeId} {i : TypeInfo} (h : P.info? t = some i) (w : World) : (sizeOf t).run P w = .ok i.size w := by
  unfold sizeOf
  rw [Sem.run_bind, run_typeInfo w h]
  rfl
theorem run_isAgg' {t : TypeId} {d : TypeDesc} (h : P.underlying t = some d) (w : World) : (isAgg t).run P w = .ok (aggD d) w := by
  unfold isAgg
  rw [Sem.run_bind, run_underlying h w]
  cases d <;> rfl
theorem run_zeroValue' {t : TypeId} {i : TypeInfo} {v : Value} (h : P.info? t = some i) (hz : i.zero = some v) (w : World) : (zeroValue t).run P w = .ok v w := by
  unfold zeroValue
  rw [Sem.run_bind, run_typeInfo w h]
  simp [hz]
end

/-! ### Values, cell by cell -/
def cellsOf : AVal → Option (List AVal)
  | .agg xs => some xs
  | .tup _ => none
  | v => some [v]
/-- Values of one cell. -/
def one : AVal → Bool
  | .agg _ | .tup _ => false
  | _ => true

theorem VR.one {g : Ghost} {w : World} {v : AVal} {cv : Value} (h : VR g w v cv) (ho : one v = true) : cv.oneCell' = true ∧ cv.cells = #[cv] := by
  cases h with
  | sc hp => cases cv <;> first | exact ⟨rfl, rfl⟩ | exact hp.elim
  | agg _ _ => cases ho
  | tup _ _ => cases ho
  | _ => exact ⟨rfl, rfl⟩
/-- Lists of cells, one by one. -/
def VRs (g : Ghost) (w : World) (xs : List AVal) (cs : List Value) : Prop := xs.length = cs.length ∧ ∀ j (h : j < xs.length) (h' : j < cs.length), VR g w xs[j] cs[j]
theorem VRs.mono {g g' : Ghost} {w w' : World} (h : Ext g w g' w') {xs : List AVal} {cs : List Value} (k : VRs g w xs cs) : VRs g' w' xs cs := ⟨k.1, fun j h1 h2 => (k.2 j h1 h2).mono h⟩
theorem VRs.nil {g : Ghost} {w : World} : VRs g w [] [] := ⟨rfl, fun j h => absurd h (Nat.not_lt_zero _)⟩
theorem VRs.cons {g : Ghost} {w : World} {x : AVal} {c : Value} {xs : List AVal} {cs : List Value} (h : VR g w x c) (k : VRs g w xs cs) : VRs g w (x :: xs) (c :: cs) := by
  refine ⟨by simp [k.1], fun j h1 h2 => ?_⟩
  cases j with
  | zero => exact h
  | succ j => exact k.2 j (by simpa using h1) (by simpa using h2)
theorem VRs.append {g : Ghost} {w : World} {xs ys : List AVal} {cs ds : List Value} (h : VRs g w xs cs) (k : VRs g w ys ds) : VRs g w (xs ++ ys) (cs ++ ds) := by
  refine ⟨by simp [h.1, k.1], fun j h1 h2 => ?_⟩
  have := h.1
  by_cases hj : j < xs.length
  · rw [List.getElem_append_left hj, List.getElem_append_left (by omega)]; exact h.2 j _ _
  · rw [List.getElem_append_right (by omega), List.getElem_append_right (by omega)]
    have e : j - cs.length = j - xs.length := by omega
    simp only [e]
    exact k.2 _ _ _
theorem VRs.take {g : Ghost} {w : World} {xs : List AVal} {cs : List Value} (h : VRs g w xs cs) (k : Nat) : VRs g w (xs.take k) (cs.take k) := by
  refine ⟨by simp [h.1], fun j h1 h2 => ?_⟩
  rw [List.getElem_take, List.getElem_take]; exact h.2 j _ _
theorem VRs.drop {g : Ghost} {w : World} {xs : List AVal} {cs : List Value} (h : VRs g w xs cs) (k : Nat) : VRs g w (xs.drop k) (cs.drop k) := by
  refine ⟨by simp [h.1], fun j h1 h2 => ?_⟩
  rw [List.getElem_drop, List.getElem_drop]; exact h.2 _ _ _
theorem VRs.get {g : Ghost} {w : World} {xs : List AVal} {cs : List Value} (h : VRs g w xs cs) {j : Nat} {v : AVal} (hv : xs[j]? = some v) : ∃ cv, cs[j]? = some cv ∧ VR g w v cv := by
  obtain ⟨hj, rfl⟩ := List.getElem?_eq_some_iff.1 hv
  have := h.1
  exact ⟨cs[j]'(by omega), by rw [List.getElem?_eq_getElem], h.2 j hj (by omega)⟩
theorem VRs.set {g : Ghost} {w : World} {xs : List AVal} {cs : List Value} (h : VRs g w xs cs) (k : Nat) {v : AVal} {cv : Value} (hv : VR g w v cv) : VRs g w (xs.set k v) (cs.set k cv) := by
  refine ⟨by simp [h.1], fun j h1 h2 => ?_⟩
  simp only [List.getElem_set]
  split
  · exact hv
  · exact h.2 j _ _

theorem VR.cellsOf {g : Ghost} {w : World} {v : AVal} {cv : Value} {xs : List AVal} (h : VR g w v cv) (hc : cellsOf v = some xs) : VRs g w xs cv.cells.toList := by
  cases h with
  | @agg xs cs h1 h2 =>
    cases hc
    show VRs g w xs cs.toList
    exact ⟨by simpa using h1, fun j h1 h3 => by simpa using h2 j h1 (by simpa using h3)⟩
  | tup _ _ => cases hc
  | sc hp =>
    cases hc
    have : cv.cells = #[cv] := (VR.one (g := g) (w := w) (.sc hp) rfl).2
    rw [this]
    exact .cons (.sc hp) .nil
  | ptr => cases hc; exact .cons .ptr .nil
  | ept cv h1 h2 h3 => cases hc; exact .cons (.ept cv h1 h2 h3) .nil
  | nil => cases hc; exact .cons .nil .nil
  | nil' => cases hc; exact .cons .nil' .nil
  | zero => cases hc; exact .cons .zero .nil
  | zero' => cases hc; exact .cons .zero' .nil
  | sl cv h1 h2 h3 h4 h5 h6 h7 h8 => cases hc; exact .cons (.sl cv h1 h2 h3 h4 h5 h6 h7 h8) .nil
  | row => cases hc; exact .cons .row .nil
  | clo h1 h2 h3 h4 => cases hc; exact .cons (.clo h1 h2 h3 h4) .nil
  | mapv => cases hc; exact .cons .mapv .nil

/-- All cells of what lies in memory are of one cell each: a fact that the relation carries by itself. -/
def flatA (xs : List AVal) : Bool := xs.all one
theorem flat_one {g : Ghost} {w : World} {xs : List AVal} {cs : List Value} (h : VRs g w xs cs) (hf : flatA xs = true) : ∀ v ∈ cs, v.oneCell' = true := by
  intro v hv
  obtain ⟨j, hj, rfl⟩ := List.getElem_of_mem hv
  have hl := h.1
  exact (VR.one (h.2 j (by omega) hj) (List.all_eq_true.1 hf _ (List.getElem_mem _))).1

theorem ObjOk.vrs {g : Ghost} {w : World} {b : Nat} {cs : List AVal} (h : ObjOk g w b (.cells cs)) : ∃ c el, w.heap[b]? = some (.cells c el (0, 0)) ∧ VRs g w cs c.toList := by
  obtain ⟨_, c, el, hb, hl, hv⟩ := h
  exact ⟨c, el, hb, by simpa using hl, fun j h1 h2 => by simpa using hv j h1 (by simpa using h2)⟩
theorem ObjOk.vrs' {g : Ghost} {w : World} {b : Nat} {cs : List AVal} (h : ObjOk g w b (.ro cs)) : ∃ c el, w.heap[b]? = some (.cells c el (0, 0)) ∧ VRs g w cs c.toList := by
  obtain ⟨_, c, el, hb, hl, hv⟩ := h
  exact ⟨c, el, hb, by simpa using hl, fun j h1 h2 => by simpa using hv j h1 (by simpa using h2)⟩
/-- What can be read of a block, whether it may be written or not. -/
def Rd (H : AHeap) (b : Nat) (cs : List AVal) : Prop := H b = some (.cells cs) ∨ H b = some (.ro cs)
theorem Inv.vrs {g : Ghost} {w : World} {H : AHeap} (hi : Inv g w H) {b : Nat} {cs : List AVal} (h : Rd H b cs) : ∃ c el, w.heap[b]? = some (.cells c el (0, 0)) ∧ VRs g w cs c.toList := by
  rcases h with h | h
  · exact (hi.obj b _ h).2.vrs
  · exact (hi.obj b _ h).2.vrs'

/-! ### The world with a block written anew -/
theorem ext_setRow {g : Ghost} {w : World} {b : Nat} {c c' : Array Value} {el : TypeId} {fr : Nat × Nat} (hb : w.heap[b]? = some (.cells c el fr)) (hs : c'.size = c.size) (hbase : g.base ≤ b)
    (hlim : ∀ o, o < g.lim b → c'[o]? = c[o]?) (hpr : ¬ g.pr b) : Ext g w g (w.setRow b c') := by
  refine ⟨rfl, rfl, rfl, rfl, by simp, fun k hk => setRow_other w b k c' (by omega), fun _ => Nat.le_refl _, fun k o ho => ?_, fun k hk => ?_, rfl, fun k hk => setRow_other w b k c' (fun e => hpr (e ▸ hk))⟩
  · by_cases e : k = b
    · subst e
      rw [cell_setRow_same w k o c c' el fr hb, cell_of_row w k o c el fr hb]
      exact hlim o ho
    · exact cell_setRow_other w b c' _ e
  · unfold World.shape?
    by_cases e : k = b
    · subst e
      rw [setRow_heap w k c c' el fr hb, hb]
      simp only [hs]
    · rw [setRow_other w b k c' e]

theorem ObjOk.other {g : Ghost} {w : World} {b k : Nat} {c' : Array Value} (he : Ext g w g (w.setRow b c')) (hne : k ≠ b) {o : HObj} (h : ObjOk g w k o) : ObjOk g (w.setRow b c') k o := by
  cases o with
  | cells cs =>
    obtain ⟨h1, c, el, h2, h3, h4⟩ := h
    exact ⟨h1, c, el, by rw [setRow_other w b k c' hne]; exact h2, h3, fun j a b => (h4 j a b).mono he⟩
  | ro cs =>
    obtain ⟨h1, c, el, h2, h3, h4⟩ := h
    exact ⟨h1, c, el, by rw [setRow_other w b k c' hne]; exact h2, h3, fun j a b => (h4 j a b).mono he⟩
  | grow e =>
    obtain ⟨h1, c, el, h2⟩ := h
    exact ⟨h1, c, el, by rw [setRow_other w b k c' hne]; exact h2⟩
  | amap es =>
    obtain ⟨h1, c, el, h2, h3, h4⟩ := h
    exact ⟨h1, c, el, by rw [setRow_other w b k c' hne]; exact h2, h3, fun j a b => ⟨(h4 j a b).1, (h4 j a b).2.mono he⟩⟩
  | iter s pos => exact ⟨h.1, by rw [setRow_other w b k c' hne]; exact h.2⟩

theorem inv_store {g : Ghost} {w : World} {H : AHeap} (hi : Inv g w H) {b : Nat} {cs cs' : List AVal} (hb : H b = some (.cells cs)) {c : Array Value} {el : TypeId} (hw : w.heap[b]? = some (.cells c el (0, 0)))
    {c' : List Value} (hs : c'.length = c.size) (hv : VRs g w cs' c') : Ext g w g (w.setRow b c'.toArray) ∧ Inv g (w.setRow b c'.toArray) (H.put b (.cells cs')) := by
  obtain ⟨hbase, hok⟩ := hi.obj b _ hb
  have hlim : g.lim b = 0 := hok.1.1
  have he : Ext g w g (w.setRow b c'.toArray) := ext_setRow hw (by simpa using hs) hbase (fun o ho => by omega) hok.1.2
  refine ⟨he, ⟨by simpa using hi.base_le, fun k hk => hi.fresh k (by simpa using hk), fun k o hk => ?_⟩⟩
  by_cases e : k = b
  · subst e
    rw [put_same] at hk
    cases hk
    refine ⟨hbase, hok.1, c'.toArray, el, setRow_heap w k c _ el (0, 0) hw, by simpa using hv.1, fun j h1 h2 => ?_⟩
    have := hv.2 j h1 (by simpa using h2)
    simpa using this.mono he
  · rw [put_ne e] at hk
    exact ⟨(hi.obj k o hk).1, (hi.obj k o hk).2.other he e⟩

/-- A new block. -/
theorem ext_alloc {g : Ghost} {w : World} (hb : g.base ≤ w.heap.size) (hf : g.lim w.heap.size = 0) (hf' : ¬ g.pr w.heap.size) (o : Obj) : Ext g w g (w.alloc o) := by
  refine ⟨rfl, rfl, rfl, rfl, by simp, fun k hk => heap_alloc_old w o k (by omega), fun _ => Nat.le_refl _, fun k i hi => ?_, fun k hk => ?_, rfl, fun k hk => ?_⟩
  rotate_left 2
  · show (w.heap.push o)[k]? = _
    have hne : k ≠ w.heap.size := fun e => hf' (e ▸ hk)
    rw [Array.getElem?_push, if_neg hne]
  · refine World.cell?_alloc_old w o _ (fun e => ?_)
    simp only at e
    subst e
    omega
  · unfold World.shape?
    rw [heap_alloc_old w o k hk]
theorem ObjOk.alloc {g : Ghost} {w : World} {o : Obj} (he : Ext g w g (w.alloc o)) {k : Nat} {p : HObj} (h : ObjOk g w k p) : ObjOk g (w.alloc o) k p := by
  have hlt := h.lt
  cases p with
  | cells cs =>
    obtain ⟨h1, c, el, h2, h3, h4⟩ := h
    exact ⟨h1, c, el, by rw [heap_alloc_old w o k hlt]; exact h2, h3, fun j a b => (h4 j a b).mono he⟩
  | ro cs =>
    obtain ⟨h1, c, el, h2, h3, h4⟩ := h
    exact ⟨h1, c, el, by rw [heap_alloc_old w o k hlt]; exact h2, h3, fun j a b => (h4 j a b).mono he⟩
  | grow e =>
    obtain ⟨h1, c, el, h2⟩ := h
    exact ⟨h1, c, el, by rw [heap_alloc_old w o k hlt]; exact h2⟩
  | amap es =>
    obtain ⟨h1, c, el, h2, h3, h4⟩ := h
    exact ⟨h1, c, el, by rw [heap_alloc_old w o k hlt]; exact h2, h3, fun j a b => ⟨(h4 j a b).1, (h4 j a b).2.mono he⟩⟩
  | iter s pos => exact ⟨h.1, by rw [heap_alloc_old w o k hlt]; exact h.2⟩
theorem inv_alloc {g : Ghost} {w : World} {H : AHeap} (hi : Inv g w H) {c : List Value} (el : TypeId) {cs : List AVal} (hv : VRs g w cs c) :
    Ext g w g (w.alloc (.cells c.toArray el)) ∧ Inv g (w.alloc (.cells c.toArray el)) (H.put w.heap.size (.cells cs)) := by
  have he := ext_alloc hi.base_le (hi.fresh _ (Nat.le_refl _)).1 (hi.fresh _ (Nat.le_refl _)).2 (Obj.cells c.toArray el)
  refine ⟨he, ⟨by have := hi.base_le; simp; omega, fun k hk => hi.fresh k (by simp at hk; omega), fun k o hk => ?_⟩⟩
  by_cases e : k = w.heap.size
  · subst e
    rw [put_same] at hk
    cases hk
    refine ⟨hi.base_le, hi.fresh _ (Nat.le_refl _), c.toArray, el, heap_alloc_new w _, by simpa using hv.1, fun j h1 h2 => ?_⟩
    have := hv.2 j h1 (by simpa using h2)
    simpa using this.mono he
  · rw [put_ne e] at hk
    exact ⟨(hi.obj k o hk).1, (hi.obj k o hk).2.alloc he⟩

/-- A block that is never written again from now on. -/
def Ghost.fix (g : Ghost) (b e : Nat) : Ghost := { g with lim := fun x => if x = b then e else g.lim x }
theorem ext_seal {g : Ghost} {w : World} {b e : Nat} (h : g.lim b ≤ e) : Ext g w (g.fix b e) w :=
  ⟨rfl, rfl, rfl, rfl, Nat.le_refl _, fun _ _ => rfl, fun x => by simp only [Ghost.fix]; split <;> simp_all, fun _ _ _ => rfl, fun _ _ => rfl, rfl, fun _ _ => rfl⟩
theorem inv_seal {g : Ghost} {w : World} {H : AHeap} (hi : Inv g w H) {b e : Nat} (h : g.lim b ≤ e) (hb : b < w.heap.size) (hH : H b = none) : Inv (g.fix b e) w H := by
  have he := ext_seal (w := w) h
  refine ⟨hi.base_le, fun k hk => ?_, fun k o hk => ?_⟩
  · simp only [Ghost.fix]; rw [if_neg (by omega)]; exact hi.fresh k hk
  · have hne : k ≠ b := fun e => by rw [e, hH] at hk; cases hk
    refine ⟨(hi.obj k o hk).1, ?_⟩
    have hok := (hi.obj k o hk).2
    have hl : (g.fix b e).lim k = g.lim k := by simp only [Ghost.fix]; rw [if_neg hne]
    cases o with
    | cells cs => exact ⟨by rw [hl]; exact hok.1, let ⟨c, el, h2, h3, h4⟩ := hok.2; ⟨c, el, h2, h3, fun j a b => (h4 j a b).mono he⟩⟩
    | ro cs => exact ⟨by rw [hl]; exact hok.1, let ⟨c, el, h2, h3, h4⟩ := hok.2; ⟨c, el, h2, h3, fun j a b => (h4 j a b).mono he⟩⟩
    | grow x => exact ⟨by rw [hl]; exact hok.1, hok.2⟩
    | amap es => exact ⟨by rw [hl]; exact hok.1, let ⟨c, el, h2, h3, h4⟩ := hok.2; ⟨c, el, h2, h3, fun j a b => ⟨(h4 j a b).1, (h4 j a b).2.mono he⟩⟩⟩
    | iter s pos => exact ⟨by rw [hl]; exact hok.1, hok.2⟩

theorem Inv.none {g : Ghost} {w : World} {H : AHeap} (h : Inv g w H) {b : Nat} (hb : w.heap.size ≤ b) : H b = Option.none := by
  cases hx : H b with
  | none => rfl
  | some o => have := h.lt hx; omega
end Abs
end Go.Proofs.Ytbldnaflffmddaa

set_option linter.unusedVariables false
namespace Go.Proofs.Ytbldnaflffmddaa
namespace Abs
open Go.RowKit

theorem VR.eq_ptr {g : Ghost} {w : World} {b off : Nat} {cv : Value} (h : VR g w (.ptr b off) cv) : cv = .pointer (some ⟨b, off, none⟩) := by cases h; rfl
theorem VR.eq_sc {g : Ghost} {w : World} {v cv : Value} (h : VR g w (.sc v) cv) : cv = v := by cases h; rfl
theorem add_plain (b o j : Nat) : (⟨b, o, none⟩ : Addr).add j = ⟨b, o + j, none⟩ := by unfold Addr.add; split <;> simp_all

theorem VRs.arr {g : Ghost} {w : World} {xs : List AVal} {cs : Array Value} (h : VRs g w xs cs.toList) : xs.length = cs.size ∧ ∀ j (h : j < xs.length) (h' : j < cs.size), VR g w xs[j] cs[j] :=
  ⟨by simpa using h.1, fun j h1 h2 => by have := h.2 j h1 (by simpa using h2); rw [Array.getElem_toList] at this; exact this⟩
theorem VRs.of_arr {g : Ghost} {w : World} {xs : List AVal} {cs : Array Value} (h1 : xs.length = cs.size) (h2 : ∀ j (h : j < xs.length) (h' : j < cs.size), VR g w xs[j] cs[j]) : VRs g w xs cs.toList :=
  ⟨by simpa using h1, fun j h3 h4 => by have := h2 j h3 (by simpa using h4); rw [Array.getElem_toList]; exact this⟩
theorem VRs.to_arr {g : Ghost} {w : World} {xs : List AVal} {cs : List Value} (h : VRs g w xs cs) : VRs g w xs cs.toArray.toList := by simpa using h

section
variable {P : Program} {tt : TT} {n : Nat} {ops : Array Oper} {F : Fr} {H : AHeap} {dst : Option Tmp} {ty : TypeId} {pos : String} {af : Array Edge} {K : APost}

/-! ### load -/
theorem run_load_sc {w : World} {t : TypeId} {d : TypeDesc} (hd : P.underlying t = some d) (ha : aggD d = false) {a : Addr} {cv : Value} (hc : w.cell? a = some cv) : (loadVar t a).run P w = .ok cv w := by
  unfold loadVar
  rw [Sem.run_bind, run_isAgg' hd w, ha]
  simp [hc]
theorem run_load_agg {w : World} {t : TypeId} {d : TypeDesc} {i : TypeInfo} (hd : P.underlying t = some d) (ha : aggD d = true) (hi : P.info? t = some i) {a : Addr} {cs : List Value} (hl : cs.length = i.size)
    (hc : ∀ j v, cs[j]? = some v → w.cell? (a.add j) = some v) : (loadVar t a).run P w = .ok (.agg cs.toArray) w := by
  unfold loadVar
  rw [Sem.run_bind, run_isAgg' hd w, ha]
  have h1 := run_loadCells_list (P := P) w a cs hc
  rw [hl] at h1
  simp [run_sizeOf' hi w, h1]

theorem reads_load_sc (tk : TTok tt P) {t : TypeId} {x : Operand} {b off k : Nat} {cs : List AVal} {v : AVal} (hx : opd F x = some (.ptr b off)) (hH : Rd H b cs) (ht : find tt.size t = some (k, false)) (hv : cs[off]? = some v) :
    Reads P n ⟨dst, .load t x, ty, pos, af, none⟩ F H v := fun g a w hi hf => by
  have hp := (hf.opd hx).eq_ptr
  obtain ⟨i, d, hti, hk, hd, ha⟩ := tk.size ht
  obtain ⟨c, el, hb, hvs⟩ := hi.vrs hH
  obtain ⟨cv, h1, h2⟩ := hvs.get hv
  refine ⟨cv, ?_, h2⟩
  have hc : w.cell? ⟨b, off, none⟩ = some cv := by rw [cell_of_row w b off c el _ hb]; simpa using h1
  simp [execOp, Instr.loadAt, Instr.sureAddr, hp, run_load_sc hd ha hc]
theorem reads_load_agg (tk : TTok tt P) {t : TypeId} {x : Operand} {b off k : Nat} {cs : List AVal} (hx : opd F x = some (.ptr b off)) (hH : Rd H b cs) (ht : find tt.size t = some (k, true)) (hl : off + k ≤ cs.length) :
    Reads P n ⟨dst, .load t x, ty, pos, af, none⟩ F H (.agg ((cs.drop off).take k)) := fun g a w hi hf => by
  have hp := (hf.opd hx).eq_ptr
  obtain ⟨i, d, hti, hk, hd, ha⟩ := tk.size ht
  obtain ⟨c, el, hb, hvs⟩ := hi.vrs hH
  have hvs' := (hvs.drop off).take k
  have hlen := hvs.1
  refine ⟨.agg ((c.toList.drop off).take k).toArray, ?_, ?_⟩
  · have hc : ∀ j v, ((c.toList.drop off).take k)[j]? = some v → w.cell? ((⟨b, off, none⟩ : Addr).add j) = some v := fun j v hv => by
      rw [add_plain, cell_of_row w b _ c el _ hb]
      rw [List.getElem?_take] at hv
      split at hv
      · simpa using hv
      · cases hv
    have := run_load_agg hd ha hti (a := ⟨b, off, none⟩) (cs := (c.toList.drop off).take k) (by simp at hlen ⊢; omega) hc
    simp [execOp, Instr.loadAt, Instr.sureAddr, hp, this]
  · exact .agg hvs'.to_arr.arr.1 hvs'.to_arr.arr.2
theorem reads_load_whole (tk : TTok tt P) {t : TypeId} {x : Operand} {b k : Nat} {cs : List AVal} (hx : opd F x = some (.ptr b 0)) (hH : Rd H b cs) (ht : find tt.size t = some (k, true)) (hl : cs.length = k) :
    Reads P n ⟨dst, .load t x, ty, pos, af, none⟩ F H (.agg cs) := by
  have := reads_load_agg (ty := ty) (pos := pos) (af := af) (dst := dst) (n := n) tk hx hH ht (by omega)
  simpa [← hl] using this
/-- Through a pointer into a row that nobody writes. -/
theorem reads_ept_sc (tk : TTok tt P) {t : TypeId} {x : Operand} {c : List AVal} {off k : Nat} {v : AVal} (hx : opd F x = some (.ept c off)) (ht : find tt.size t = some (k, false)) (hv : c[off]? = some v) :
    Reads P n ⟨dst, .load t x, ty, pos, af, none⟩ F H v := fun g a w hi hf => by
  have hp := hf.opd hx
  generalize hcv : a.eval x = cv0 at hp
  obtain ⟨i, d, hti, hk, hd, ha⟩ := tk.size ht
  obtain ⟨hj, rfl⟩ := List.getElem?_eq_some_iff.1 hv
  cases hp with
  | @ept _ _ b o cv h1 h2 h3 =>
    exact ⟨cv off, by simp [execOp, Instr.loadAt, Instr.sureAddr, hcv, run_load_sc hd ha (h2 off hj)], h3 off hj⟩
theorem reads_ept_agg (tk : TTok tt P) {t : TypeId} {x : Operand} {c : List AVal} {off k : Nat} (hx : opd F x = some (.ept c off)) (ht : find tt.size t = some (k, true)) (hl : off + k ≤ c.length) :
    Reads P n ⟨dst, .load t x, ty, pos, af, none⟩ F H (.agg ((c.drop off).take k)) := fun g a w hi hf => by
  have hp := hf.opd hx
  generalize hcv : a.eval x = cv0 at hp
  obtain ⟨i, d, hti, hk, hd, ha⟩ := tk.size ht
  cases hp with
  | @ept _ _ b o cv h1 h2 h3 =>
    have hlen : ((List.range k).map fun j => cv (off + j)).length = i.size := by simp [hk]
    refine ⟨.agg ((List.range k).map fun j => cv (off + j)).toArray, ?_, ?_⟩
    · have := run_load_agg (w := w) hd ha hti (a := ⟨b, o + off, none⟩) hlen (fun j v hv => by
        rw [add_plain]
        obtain ⟨hj, rfl⟩ := List.getElem?_eq_some_iff.1 hv
        simp at hj
        rw [show o + off + j = o + (off + j) by omega, h2 (off + j) (by omega)]
        simp)
      simp [execOp, Instr.loadAt, Instr.sureAddr, hcv] at this ⊢
      rw [this]
      rfl
    · refine .agg (by simp; omega) (fun j hj hj' => ?_)
      simp at hj hj'
      have := h3 (off + j) (by omega)
      simpa using this

/-! ### store -/
theorem op_store_sc (tk : TTok tt P) {t : TypeId} {x y : Operand} {b off k : Nat} {cs : List AVal} {v : AVal} (hx : opd F x = some (.ptr b off)) (hy : opd F y = some v) (hH : H b = some (.cells cs))
    (ht : find tt.size t = some (1, false)) (hl : off < cs.length) (h1 : one v = true) (hK : K F (H.put b (.cells (cs.set off v)))) : AOp P n ops ⟨none, .store t x y, ty, pos, af, none⟩ F H K :=
  op_of_skip fun g a w hi hf => by
    have hp := (hf.opd hx).eq_ptr
    have hv := hf.opd hy
    obtain ⟨i, d, hti, hk, hd, ha⟩ := tk.size ht
    obtain ⟨c, el, hb, hvs⟩ := (hi.obj b _ hH).2.vrs
    obtain ⟨h2, h3⟩ := hv.one h1
    have hlen := hvs.1
    have hst := run_storeCells_at P b off el [a.eval y] 0 c w hb (by simp at hlen ⊢; omega) (by simpa using h2)
    obtain ⟨he, hi'⟩ := inv_store hi hH hb (c' := c.toList.set off (a.eval y)) (by simp) (hvs.set off hv)
    refine ⟨_, g, _, ?_, he, hi', hK⟩
    have hset : c.toList.take off ++ [a.eval y] ++ c.toList.drop (off + 1) = c.toList.set off (a.eval y) := by
      rw [List.set_eq_take_append_cons_drop, if_pos (by simp at hlen ⊢; omega)]; simp
    simp only [Nat.add_zero, List.length_singleton, hset] at hst
    simp [execOp, Instr.storeAt, Instr.sureAddr, hp, storeVar, run_sizeOf' hti w, hk, h3, hst]
theorem op_store_agg (tk : TTok tt P) {t : TypeId} {x y : Operand} {b off k : Nat} {cs vs : List AVal} (hx : opd F x = some (.ptr b off)) (hy : opd F y = some (.agg vs)) (hH : H b = some (.cells cs))
    (ht : find tt.size t = some (k, true)) (hk' : vs.length = k) (hl : off + k ≤ cs.length) (h1 : flatA vs = true) (hK : K F (H.put b (.cells (cs.take off ++ vs ++ cs.drop (off + k))))) : AOp P n ops ⟨none, .store t x y, ty, pos, af, none⟩ F H K :=
  op_of_skip fun g a w hi hf => by
    have hp := (hf.opd hx).eq_ptr
    have hv := hf.opd hy
    generalize hcv : a.eval y = cv0 at hv
    obtain ⟨i, d, hti, hk, hd, ha⟩ := tk.size ht
    obtain ⟨c, el, hb, hvs⟩ := (hi.obj b _ hH).2.vrs
    have hlen := hvs.1
    have hvc : VRs g w vs cv0.cells.toList := hv.cellsOf rfl
    have hl2 := hvc.1
    have hst := run_storeCells_at P b off el cv0.cells.toList 0 c w hb (by simp at hlen ⊢; simp at hl2; omega) (flat_one hvc h1)
    simp only [Nat.add_zero, ← hl2, hk'] at hst
    obtain ⟨he, hi'⟩ := inv_store hi hH hb (c' := c.toList.take off ++ cv0.cells.toList ++ c.toList.drop (off + k)) (by simp at hlen hl2 ⊢; omega) (((hvs.take off).append hvc).append (hvs.drop (off + k)))
    refine ⟨_, g, _, ?_, he, hi', hK⟩
    have hsz : cv0.cells.size = i.size := by simp at hl2; omega
    simp [execOp, Instr.storeAt, Instr.sureAddr, hp, hcv, storeVar, run_sizeOf' hti w, hsz]
    simpa using congrArg (fun r => r.andThen fun a w' => Result.ok Next.skip w') hst
theorem op_store_whole (tk : TTok tt P) {t : TypeId} {x y : Operand} {b k : Nat} {cs vs : List AVal} (hx : opd F x = some (.ptr b 0)) (hy : opd F y = some (.agg vs)) (hH : H b = some (.cells cs))
    (ht : find tt.size t = some (k, true)) (hk' : vs.length = k) (hl : cs.length = k) (h1 : flatA vs = true) (hK : K F (H.put b (.cells vs))) : AOp P n ops ⟨none, .store t x y, ty, pos, af, none⟩ F H K :=
  op_store_agg tk hx hy hH ht hk' (by omega) h1 (by simpa [← hl] using hK)

/-! ### new variables -/
theorem op_box (hd : dstOk n dst = true) {e : TypeId} {x : Operand} {v : AVal} {cs : List AVal} (hx : opd F x = some v) (hc : cellsOf v = some cs) (hK : ∀ b, H b = none → K (F.put dst (.ptr b 0)) (H.put b (.cells cs))) :
    AOp P n ops ⟨dst, .box e x, ty, pos, af, none⟩ F H K :=
  op_of_value hd fun g a w hi hf => by
    have hv := (hf.opd hx).cellsOf hc
    obtain ⟨he, hi'⟩ := inv_alloc hi e hv
    exact ⟨.pointer (some ⟨w.heap.size, 0, none⟩), _, g, .ptr w.heap.size 0, _, by simp [execOp, Instr.box, newVar, newRow], he, hi', .ptr, hK _ hi.size_fresh⟩
theorem op_alloc (tk : TTok tt P) (hd : dstOk n dst = true) {e : TypeId} {zs : List Value} {cs : List AVal} (hz : find tt.zero e = some zs) (hc : absL zs = some cs) (hK : ∀ b, H b = none → K (F.put dst (.ptr b 0)) (H.put b (.cells cs))) :
    AOp P n ops ⟨dst, .alloc e, ty, pos, af, none⟩ F H K :=
  op_of_value hd fun g a w hi hf => by
    obtain ⟨i, v, h1, h2, h3⟩ := tk.zero hz
    obtain ⟨he, hi'⟩ := inv_alloc hi e (cs := cs) (c := v.cells.toList) (by rw [h3]; exact absL_ok hc)
    refine ⟨.pointer (some ⟨w.heap.size, 0, none⟩), _, g, .ptr w.heap.size 0, _, ?_, he, hi', .ptr, hK _ hi.size_fresh⟩
    simp [execOp, Instr.alloc, newVar, newRow, run_zeroValue' h1 h2 w]

/-! ### calls -/
/-- Function f has a body, and is none of the machine's own. -/
def fnOk (P : Program) (f : FuncId) : Bool := match P.funcs[f]? with
  | some fn => !(fn.name == "runtime.NumGoroutine") && fn.body.isSome
  | none => false
theorem run_callFunc {f : FuncId} (h : fnOk P f = true) (args : Array Value) (w : World) : (callFunc f args).run P w = .ok (.enter f args) w := by
  unfold fnOk at h
  split at h
  · rename_i fn hfn
    simp only [Bool.and_eq_true, Bool.not_eq_true'] at h
    obtain ⟨c, hb⟩ := Option.isSome_iff_exists.1 h.2
    have hn : ¬ fn.name = "runtime.NumGoroutine" := by simpa using h.1
    simp [callFunc, hfn, hn, hb]
  · cases h

theorem op_call_clo (hd : dstOk n dst = true) {c : Operand} {f : FuncId} {fs cs vs : List AVal} {xs : Array Operand} {at_ : Array TypeId} (hc : opd F c = some (.clo f fs cs)) (hf : fnOk P f = true) (hxs : opds F xs.toList = some vs)
    (hK : ACalls P f (fs ++ vs ++ cs) H (fun v H' => K (F.put dst v) H')) : AOp P n ops ⟨dst, .call { callee := .value c, args := xs, argTypes := at_ }, ty, pos, af, none⟩ F H K :=
  fun g a w Q Kc hi hfr hk => by
    rw [wanted_none]
    refine .inl ?_
    have hcv := hfr.opd hc
    generalize hce : a.eval c = cv0 at hcv
    obtain ⟨hl, hv⟩ := hfr.opds hxs
    cases hcv with
    | @clo _ _ _ fv cv h1 h2 h3 h4 =>
      unfold Oper.wp
      have hr : (execOp a.eval ⟨dst, .call { callee := .value c, args := xs, argTypes := at_ }, ty, pos, af, none⟩).run P w = .ok (.enter f (fv ++ xs.map a.eval ++ cv)) w := by
        simp [execOp, resolve, hce, Deferred.ofValue, invoke, run_callFunc hf]
      rw [hr, Oper.upon_enter]
      have hall : VRs g w (fs ++ vs ++ cs) (fv ++ xs.map a.eval ++ cv).toList := by
        rw [Array.toList_append, Array.toList_append]
        refine ((VRs.of_arr h1 h3).append (?_ : VRs g w vs (xs.map a.eval).toList)).append (VRs.of_arr h2 h4)
        refine ⟨by simpa using hl, fun j x y => ?_⟩
        have := hv j x (by simpa using y)
        simpa using this
      refine (hK g w _ hi hall.arr.1 hall.arr.2).mono ?_
      rintro e w' ⟨cv', g', v, H', rfl, he, hi', hv', hKv⟩
      exact hk g' _ w' _ H' he hi' ((hfr.mono he).put (dstOk_lt hd) hv') hKv
/-- A call of a function by its name. -/
theorem op_call (hd : dstOk n dst = true) {f : FuncId} {vs : List AVal} {xs : Array Operand} {at_ : Array TypeId} (hf : fnOk P f = true) (hxs : opds F xs.toList = some vs)
    (hK : ACalls P f vs H (fun v H' => K (F.put dst v) H')) : AOp P n ops ⟨dst, .call { callee := .value (.func f), args := xs, argTypes := at_ }, ty, pos, af, none⟩ F H K :=
  op_call_clo hd (f := f) (fs := []) (cs := []) rfl hf hxs (by simpa using hK)

theorem ACalls.mono {f : FuncId} {args : List AVal} {R R' : AVal → AHeap → Prop} (h : ACalls P f args H R) (hr : ∀ v H', R v H' → R' v H') : ACalls P f args H R' :=
  fun g w cargs hi hl hv => (h g w cargs hi hl hv).mono fun e w' ⟨cv, g', v, H', he, h1, h2, h3, h4⟩ => ⟨cv, g', v, H', he, h1, h2, h3, hr _ _ h4⟩
theorem ACalls.sub {f : FuncId} {args : List AVal} {H' : AHeap} {R : AVal → AHeap → Prop} (h : ACalls P f args H R) (hs : H.sub H') : ACalls P f args H' R :=
  fun g w cargs hi hl hv => h g w cargs (hi.sub hs) hl hv
/-- What is handed in may be known better than is asked. -/
theorem ACalls.wk {f : FuncId} {args args' : List AVal} {R : AVal → AHeap → Prop} (h : ACalls P f args' H R) (hw : Wk (.tup args) (.tup args')) : ACalls P f args H R :=
  fun g w cargs hi hl hv => by
    have h1 : VR g w (.tup args) (.tuple cargs) := .tup hl hv
    have h2 := h1.wk hw
    cases h2 with
    | tup a b => exact h g w cargs hi a b

/-! ### a function's body -/
def argFr : List AVal → Nat → Fr
  | [], _ => []
  | v :: vs, k => (k, v) :: argFr vs (k + 1)
theorem argFr_get : ∀ (vs : List AVal) (k t : Nat) (v : AVal), (argFr vs k).get t = some v → k ≤ t ∧ vs[t - k]? = some v
  | [], _, _, _, h => by cases h
  | u :: us, k, t, v, h => by
    simp only [argFr, Fr.get] at h
    cases hx : Nat.beq k t with
    | true =>
      rw [hx] at h
      have := Nat.eq_of_beq_eq_true hx
      subst this
      cases h
      simp
    | false =>
      rw [hx] at h
      obtain ⟨h1, h2⟩ := argFr_get us (k + 1) t v h
      have e : t - k = (t - (k + 1)) + 1 := by omega
      exact ⟨by omega, by rw [e]; simpa using h2⟩

/-- What the result variables hold. -/
def ResOk (P : Program) (fn : Func) (n : Nat) (F : Fr) (H : AHeap) (v : AVal) : Prop :=
  ∀ g a w, Inv g w H → FR g w n F a → ∃ cv, (results fn a.tmps).run P w = .ok cv w ∧ VR g w v cv
def retQ (P : Program) (fn : Func) (n : Nat) (K : AVal → AHeap → Prop) : AQ
  | .normal, F, H | .ret, F, H => ∃ v, ResOk P fn n F H v ∧ ∃ v' H', Wk v v' ∧ H'.sub H ∧ K v' H'
  | _, _, _ => False

theorem acalls_body {f : FuncId} {fn : Func} {c : Code} {args : List AVal} {K : AVal → AHeap → Prop} (hf : P.funcs[f]? = some fn) (hb : fn.body = some c) {m : Nat} (hm : fn.ntmps = m) (hn : Nat.ble args.length m = true)
    (h : AW P m c (argFr args 0) H (retQ P fn m K)) : ACalls P f args H K := fun g w cargs hi hl hv => by
  subst hm
  have hle : args.length ≤ fn.ntmps := Nat.le_of_ble_eq_true hn
  refine calls_of_wp hf hb ?_
  refine h g _ w _ hi ⟨?_, rfl, fun t v ht => ?_⟩ (fun e g' a' w' F' H' he hi' hf' hq => ?_)
  · simp; omega
  · obtain ⟨_, h2⟩ := argFr_get _ _ _ _ ht
    obtain ⟨hj, rfl⟩ := List.getElem?_eq_some_iff.1 h2
    simp only [Nat.sub_zero] at hj ⊢
    exact ⟨cargs[t]'(by omega), by rw [Array.getElem?_append_left (by omega), Array.getElem?_eq_getElem], hv t hj (by omega)⟩
  · cases e with
    | normal =>
      obtain ⟨v, hr, v', H2, hwk, hsub, hK⟩ := hq
      obtain ⟨cv, h1, h2⟩ := hr g' a' w' hi' hf'
      exact ⟨hf'.defers, cv, h1, cv, g', v', H2, rfl, he, hi'.sub hsub, h2.wk hwk, hK⟩
    | ret =>
      obtain ⟨v, hr, v', H2, hwk, hsub, hK⟩ := hq
      obtain ⟨cv, h1, h2⟩ := hr g' a' w' hi' hf'
      exact ⟨hf'.defers, cv, h1, cv, g', v', H2, rfl, he, hi'.sub hsub, h2.wk hwk, hK⟩
    | exit id => exact hq.elim
    | goto l => exact hq.elim
    | panic ch => exact hq.elim
    | outgrown => exact hq.elim

/-- One result variable. -/
def rvSem (tmps : Array Value) (r : ResultVar) : Sem Value :=
  match r with
  | .tmp t => pure (tmps.getD t undef)
  | .cell p t => do loadVar t (← asAddr (tmps.getD p undef))
theorem results_eq (fn : Func) (tmps : Array Value) : results fn tmps = (do
    let vs ← fn.results.mapM (rvSem tmps)
    pure (if h : vs.size = 1 then vs[0] else .tuple vs)) := rfl
def RVarOk (P : Program) (n : Nat) (F : Fr) (H : AHeap) (r : ResultVar) (v : AVal) : Prop :=
  ∀ g a w, Inv g w H → FR g w n F a → ∃ cv, (rvSem a.tmps r).run P w = .ok cv w ∧ VR g w v cv
theorem rvar_tmp {t : Nat} {v : AVal} (h : F.get t = some v) : RVarOk P n F H (.tmp t) v := fun g a w hi hf => by
  obtain ⟨cv, h1, h2⟩ := hf.slot t v h
  exact ⟨cv, by simp [rvSem, h1], h2⟩
theorem rvar_agg (tk : TTok tt P) {p : Nat} {t : TypeId} {b k : Nat} {cs : List AVal} (h : F.get p = some (.ptr b 0)) (hH : Rd H b cs) (ht : find tt.size t = some (k, true)) (hl : cs.length = k) : RVarOk P n F H (.cell p t) (.agg cs) := fun g a w hi hf => by
  obtain ⟨cv, h1, h2⟩ := hf.slot p _ h
  have hp := h2.eq_ptr
  subst hp
  obtain ⟨cv2, h3, h4⟩ := reads_load_whole (n := n) (dst := none) (ty := 0) (pos := "") (af := #[]) (x := .tmp p) tk (F := F) h hH ht hl g a w hi hf
  refine ⟨cv2, ?_, h4⟩
  have hev : a.eval (.tmp p) = .pointer (some ⟨b, 0, none⟩) := by simp [Act.eval, h1]
  simp only [execOp, Instr.loadAt, Instr.sureAddr, hev, Sem.run_bind, Sem.run_pure, Result.andThen_ok] at h3
  cases hr : (loadVar t ⟨b, 0, none⟩).run P w with
  | ok x w2 =>
    rw [hr] at h3
    simp only [Result.andThen_ok] at h3
    injection h3 with e1 e2
    injection e1 with e3
    subst e3
    subst e2
    simp [rvSem, h1, asAddr, hr]
  | halt x w2 => rw [hr] at h3; simp at h3
theorem res0 {fn : Func} (hr : fn.results = #[]) : ResOk P fn n F H (.tup []) := fun g a w hi hf => ⟨.tuple #[], by simp [results, hr], .tup rfl (fun j h => absurd h (Nat.not_lt_zero _))⟩
theorem res1 {fn : Func} {r : ResultVar} {v : AVal} (hr : fn.results = #[r]) (h : RVarOk P n F H r v) : ResOk P fn n F H v := fun g a w hi hf => by
  obtain ⟨cv, h1, h2⟩ := h g a w hi hf
  exact ⟨cv, by simp [results_eq, hr, h1], h2⟩
theorem res2 {fn : Func} {r1 r2 : ResultVar} {v1 v2 : AVal} (hr : fn.results = #[r1, r2]) (h1 : RVarOk P n F H r1 v1) (h2 : RVarOk P n F H r2 v2) : ResOk P fn n F H (.tup [v1, v2]) := fun g a w hi hf => by
  obtain ⟨c1, a1, b1⟩ := h1 g a w hi hf
  obtain ⟨c2, a2, b2⟩ := h2 g a w hi hf
  refine ⟨.tuple #[c1, c2], by simp [results_eq, hr, a1, a2], .tup rfl (fun j x y => ?_)⟩
  match j with
  | 0 => exact b1
  | 1 => exact b2
end
end Abs
end Go.Proofs.Ytbldnaflffmddaa
