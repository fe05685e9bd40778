import Derived.Test.YtmokoofibnoojaaA4
import Derived.Laws.BytesArg
set_option linter.unusedVariables false
namespace Go.Proofs.Ytmokoofibnoojaa
namespace Abs
open Go.RowKit

/-! ### rows of rows -/
def Uni (es : Nat) (xs : List (List AVal)) : Prop := ∀ x, x ∈ xs → x.length = es
theorem Uni.get {es : Nat} {xs : List (List AVal)} (h : Uni es xs) (i : Nat) (hi : i < xs.length) : xs[i].length = es := h _ (List.getElem_mem hi)
theorem Uni.len {es : Nat} : ∀ {xs : List (List AVal)}, Uni es xs → xs.flatten.length = xs.length * es
  | [], _ => by simp
  | x :: xs, h => by
    have h1 := h x List.mem_cons_self
    have h2 := Uni.len (xs := xs) (fun y hy => h y (List.mem_cons_of_mem _ hy))
    simp only [List.flatten_cons, List.length_append, h1, h2, List.length_cons, Nat.succ_mul]
    omega
theorem Uni.flat_get {es : Nat} : ∀ {xs : List (List AVal)}, Uni es xs → ∀ (i j : Nat), j < es → xs.flatten[i * es + j]? = (xs[i]?).bind (·[j]?)
  | [], _, i, j, hj => by simp
  | x :: xs, h, i, j, hj => by
    have h1 := h x List.mem_cons_self
    have ih := Uni.flat_get (xs := xs) (fun y hy => h y (List.mem_cons_of_mem _ hy))
    cases i with
    | zero => simp only [List.flatten_cons, Nat.zero_mul, Nat.zero_add, List.getElem?_cons_zero, Option.bind_some]; rw [List.getElem?_append_left (by omega)]
    | succ i =>
      rw [List.flatten_cons, List.getElem?_append_right (by rw [Nat.succ_mul]; omega), h1, show (i + 1) * es + j - es = i * es + j by rw [Nat.succ_mul]; omega, ih i j hj]
      simp
theorem Uni.append {es : Nat} {xs ys : List (List AVal)} (h : Uni es xs) (k : Uni es ys) : Uni es (xs ++ ys) := fun x hx => (List.mem_append.1 hx).elim (h x) (k x)
theorem Uni.take {es : Nat} {xs : List (List AVal)} (h : Uni es xs) (m : Nat) : Uni es (xs.take m) := fun x hx => h x (List.mem_of_mem_take hx)
theorem Uni.drop {es : Nat} {xs : List (List AVal)} (h : Uni es xs) (m : Nat) : Uni es (xs.drop m) := fun x hx => h x (List.mem_of_mem_drop hx)

theorem divmod_lt {k n es : Nat} (he : 0 < es) (h : k < n * es) : k / es < n ∧ k % es < es ∧ k / es * es + k % es = k :=
  ⟨Nat.div_lt_of_lt_mul (by rw [Nat.mul_comm]; exact h), Nat.mod_lt _ he, by rw [Nat.mul_comm]; exact Nat.div_add_mod k es⟩

/-- What can be read of a slice that nobody writes: its cells. -/
theorem VR.sl_cells {g : Ghost} {w : World} {xs : List (List AVal)} {own : Own} {cv : Value} (h : VR g w (.sl xs own) cv) {es : Nat} (he : 0 < es) (hu : Uni es xs) :
    ∃ a cap, cv = .slice a xs.length cap ∧ xs.length ≤ cap ∧ xs.length ≤ maxLen ∧ ∃ cs : List Value, VRs g w xs.flatten cs ∧ cs.length = xs.length * es ∧
      ((xs = [] ∧ cs = [] ∧ cap = 0 ∧ ∀ b e s, own ≠ .tok b e s) ∨ ∃ b o, a = some ⟨b, o, none⟩ ∧ (∀ j v, cs[j]? = some v → w.cell? ⟨b, o + j, none⟩ = some v) ∧ g.imm b (o + xs.length * es) ∧
        (∀ b' e s, own = .tok b' e s → s = es → b' = b ∧ e = o + xs.length * es ∧ g.base ≤ b ∧ hasRow w b (o + cap * es)) ∧ (own = .full → cap = xs.length)) := by
  cases h with
  | nil => exact ⟨none, 0, rfl, Nat.le_refl _, Nat.zero_le _, [], .nil, by simp, .inl ⟨rfl, rfl, rfl, by simp⟩⟩
  | nil' => exact ⟨none, 0, rfl, Nat.le_refl _, Nat.zero_le _, [], .nil, by simp, .inl ⟨rfl, rfl, rfl, by simp⟩⟩
  | zero => exact ⟨some _, 0, rfl, Nat.le_refl _, Nat.zero_le _, [], .nil, by simp, .inl ⟨rfl, rfl, rfl, by simp⟩⟩
  | zero' => exact ⟨some _, 0, rfl, Nat.le_refl _, Nat.zero_le _, [], .nil, by simp, .inl ⟨rfl, rfl, rfl, by simp⟩⟩
  | @sl _ _ b o es' cap cv h1 h2 h3 h4 h5 h6 h7 h8 =>
    have htok : ∀ b' e s, own = .tok b' e s → s = es → b' = b ∧ e = o + xs.length * es ∧ g.base ≤ b ∧ hasRow w b (o + cap * es) := fun b' e s ho hs => by
      subst ho
      obtain ⟨k1, k2, k3, k4⟩ := h6
      subst k3
      subst hs
      exact ⟨k1, k2, k4, h5⟩
    have hfull : own = .full → cap = xs.length := fun ho => by subst ho; exact h6
    by_cases hx : xs = []
    · subst hx
      exact ⟨_, cap, rfl, h3, h4, [], .nil, by simp, .inr ⟨b, o, rfl, fun j v hv => by simp at hv, by simpa using h2, htok, hfull⟩⟩
    · have hpos : 0 < xs.length := List.length_pos_iff.2 hx
      have hes : es' = es := by rw [← h1 0 hpos]; exact hu.get 0 hpos
      subst hes
      have hlen := hu.len
      refine ⟨_, cap, rfl, h3, h4, (List.range (xs.length * es')).map fun k => cv (k / es') (k % es'), ⟨by simp [hlen], fun k hk hk' => ?_⟩, by simp, .inr ⟨b, o, rfl, fun j v hv => ?_, h2, htok, hfull⟩⟩
      · rw [hlen] at hk
        obtain ⟨d1, d2, d3⟩ := divmod_lt he hk
        have hg := hu.flat_get (k / es') (k % es') d2
        rw [d3, List.getElem?_eq_getElem (by rw [hlen]; exact hk), List.getElem?_eq_getElem d1] at hg
        simp only [Option.bind_some] at hg
        have hj : k % es' < (xs[k / es']).length := by rw [hu.get _ d1]; exact d2
        rw [List.getElem?_eq_getElem hj] at hg
        injection hg with hg
        rw [hg]
        have := h8 (k / es') d1 (k % es') hj
        simpa using this
      · obtain ⟨hj, rfl⟩ := List.getElem?_eq_some_iff.1 hv
        simp at hj
        obtain ⟨d1, d2, d3⟩ := divmod_lt he hj
        have := h7 (j / es') d1 (j % es') (by rw [hu.get _ d1]; exact d2)
        rw [show o + j / es' * es' + j % es' = o + j by omega] at this
        simpa using this

/-- A slice out of cells. -/
theorem VR.sl_mk {g : Ghost} {w : World} {xs : List (List AVal)} {own : Own} {es b o cap : Nat} (he : 0 < es) (hu : Uni es xs) {cs : List Value} (hv : VRs g w xs.flatten cs) (hc : ∀ j v, cs[j]? = some v → w.cell? ⟨b, o + j, none⟩ = some v)
    (hi : g.imm b (o + xs.length * es)) (hcap : xs.length ≤ cap) (hm : xs.length ≤ maxLen) (hr : hasRow w b (o + cap * es)) (ho : ownOk g w own b (o + xs.length * es) xs.length cap es) : VR g w (.sl xs own) (.slice (some ⟨b, o, none⟩) xs.length cap) := by
  have hlen := hu.len
  have hl := hv.1
  have key : ∀ i (h : i < xs.length) j (h' : j < xs[i].length), ∃ hk : i * es + j < cs.length, ∃ hk' : i * es + j < xs.flatten.length, xs.flatten[i * es + j] = xs[i][j] := fun i h j h' => by
    have hj : j < es := by rw [← hu.get i h]; exact h'
    have h1 : (i + 1) * es ≤ xs.length * es := Nat.mul_le_mul_right _ h
    have h2 : (i + 1) * es = i * es + es := Nat.succ_mul i es
    have hk' : i * es + j < xs.flatten.length := by omega
    refine ⟨by omega, hk', ?_⟩
    have hg := hu.flat_get i j hj
    rw [List.getElem?_eq_getElem hk', List.getElem?_eq_getElem h] at hg
    simp only [Option.bind_some] at hg
    rw [List.getElem?_eq_getElem h'] at hg
    injection hg
  refine .sl (fun i j => cs.getD (i * es + j) Go.undef) (fun i h => hu.get i h) hi hcap hm hr ho (fun i h j h' => ?_) (fun i h j h' => ?_)
  · obtain ⟨hk, _, _⟩ := key i h j h'
    have := hc (i * es + j) _ (List.getElem?_eq_getElem hk)
    rw [show o + (i * es + j) = o + i * es + j by omega] at this
    simp [this, List.getElem?_eq_getElem hk]
  · obtain ⟨hk, hk', he'⟩ := key i h j h'
    have := hv.2 _ hk' hk
    rw [he'] at this
    simpa [List.getElem?_eq_getElem hk] using this

def AHeap.free (H : AHeap) : Own → AHeap
  | .tok b _ _ => H.del b
  | _ => H
def AHeap.own (H : AHeap) : Own → AHeap
  | .tok b e _ => H.put b (.grow e)
  | _ => H
def Owned (H : AHeap) : Own → Prop
  | .no => False
  | .full => True
  | .tok b e _ => H b = some (.grow e)
/-- None of what is known is the token's block. -/
def Apart (H : AHeap) : Own → Prop
  | .no => False
  | .full => True
  | .tok b _ _ => H b = none

theorem ext_drew (g : Ghost) (w : World) : Ext g w g w.drew := ⟨rfl, rfl, rfl, rfl, Nat.le_refl _, fun _ _ => rfl, fun _ => Nat.le_refl _, fun _ _ _ => rfl, fun _ _ => rfl, rfl, fun _ _ => rfl⟩
theorem ObjOk.drew {g : Ghost} {w : World} {b : Nat} {o : HObj} (h : ObjOk g w b o) : ObjOk g w.drew b o := by
  cases o with
  | cells cs => obtain ⟨h1, c, el, h2, h3, h4⟩ := h; exact ⟨h1, c, el, h2, h3, fun j a b => (h4 j a b).mono (ext_drew g w)⟩
  | ro cs => obtain ⟨h1, c, el, h2, h3, h4⟩ := h; exact ⟨h1, c, el, h2, h3, fun j a b => (h4 j a b).mono (ext_drew g w)⟩
  | grow e => exact h
  | amap es => obtain ⟨h1, c, el, h2, h3, h4⟩ := h; exact ⟨h1, c, el, h2, h3, fun j a b => ⟨(h4 j a b).1, (h4 j a b).2.mono (ext_drew g w)⟩⟩
  | iter s pos => exact h
theorem Inv.drew {g : Ghost} {w : World} {H : AHeap} (h : Inv g w H) : Inv g w.drew H := ⟨h.base_le, h.fresh, fun b o hb => ⟨(h.obj b o hb).1, (h.obj b o hb).2.drew⟩⟩

theorem hasRow_lt {w : World} {b m : Nat} (h : hasRow w b m) : b < w.heap.size := by
  obtain ⟨el, k, hs, _⟩ := h
  rcases Nat.lt_or_ge b w.heap.size with h' | h'
  · exact h'
  · simp [World.shape?, Array.getElem?_eq_none h'] at hs

/-- What is known of a row that is written behind its end. -/
theorem inv_grow {g : Ghost} {w : World} {H : AHeap} (hi : Inv g w H) {b e e' : Nat} (hb : H b = some (.grow e)) {c c' : Array Value} {el : TypeId} (hw : w.heap[b]? = some (.cells c el (0, 0))) (hs : c'.size = c.size) (hle : e ≤ e')
    (hc : ∀ o, o < e → c'[o]? = c[o]?) : Ext g w (g.fix b e') (w.setRow b c') ∧ Inv (g.fix b e') (w.setRow b c') ((H.del b).put b (.grow e')) := by
  obtain ⟨hbase, hok⟩ := hi.obj b _ hb
  have hlim : g.lim b = e := hok.1.1
  have he : Ext g w g (w.setRow b c') := ext_setRow hw hs hbase (fun o ho => hc o (by omega)) hok.1.2
  have he2 : Ext g (w.setRow b c') (g.fix b e') (w.setRow b c') := ext_seal (by omega)
  have hd : Inv g w (H.del b) := hi.sub (AHeap.del_sub (AHeap.sub_refl _) b)
  have hi1 : Inv g (w.setRow b c') (H.del b) := ⟨by simpa using hi.base_le, fun k hk => hi.fresh k (by simpa using hk), fun k o hk => by
    have hne : k ≠ b := fun e => by rw [e] at hk; simp [AHeap.del] at hk
    exact ⟨(hd.obj k o hk).1, (hd.obj k o hk).2.other he hne⟩⟩
  have hlt : b < w.heap.size := (Array.getElem?_eq_some_iff.1 hw).1
  have hi2 := inv_seal (e := e') hi1 (show g.lim b ≤ e' by omega) (by simpa using hlt) (by simp [AHeap.del])
  refine ⟨he.trans he2, hi2.base_le, hi2.fresh, fun k o hk => ?_⟩
  by_cases ek : k = b
  · subst ek
    rw [put_same] at hk
    cases hk
    exact ⟨hbase, ⟨by simp [Ghost.fix], hok.1.2⟩, c', el, setRow_heap w k c c' el (0, 0) hw⟩
  · rw [put_ne ek] at hk
    exact hi2.obj k o hk
/-- A new row. -/
theorem inv_new {g : Ghost} {w : World} {H : AHeap} (hi : Inv g w H) (e : Nat) (c : Array Value) (el : TypeId) :
    Ext g w (g.fix w.heap.size e) (w.alloc (.cells c el)) ∧ Inv (g.fix w.heap.size e) (w.alloc (.cells c el)) (H.put w.heap.size (.grow e)) := by
  have hf := hi.fresh _ (Nat.le_refl w.heap.size)
  have he := ext_alloc hi.base_le hf.1 hf.2 (Obj.cells c el)
  have he2 : Ext g (w.alloc (.cells c el)) (g.fix w.heap.size e) (w.alloc (.cells c el)) := ext_seal (by omega)
  have hi1 : Inv g (w.alloc (.cells c el)) H := ⟨by have := hi.base_le; simp; omega, fun k hk => hi.fresh k (by simp at hk; omega), fun k o hk => ⟨(hi.obj k o hk).1, (hi.obj k o hk).2.alloc he⟩⟩
  have hi2 := inv_seal (e := e) hi1 (show g.lim w.heap.size ≤ e by omega) (by simp) hi.size_fresh
  refine ⟨he.trans he2, hi2.base_le, hi2.fresh, fun k o hk => ?_⟩
  by_cases ek : k = w.heap.size
  · subst ek
    rw [put_same] at hk
    cases hk
    exact ⟨hi.base_le, ⟨by simp [Ghost.fix], hf.2⟩, c, el, heap_alloc_new w _⟩
  · rw [put_ne ek] at hk
    exact hi2.obj k o hk
theorem imm_seal (g : Ghost) (b e : Nat) : (g.fix b e).imm b e := .inr (by simp [Ghost.fix])

theorem Inv.free {g : Ghost} {w : World} {H : AHeap} (h : Inv g w H) {o : Own} : Inv g w (H.free o) := by
  cases o with
  | no => exact h
  | full => exact h
  | tok b e s => exact h.sub (AHeap.del_sub (AHeap.sub_refl _) b)
theorem growBy_le (m : Nat) : ∀ (r c : Nat), c ≤ 2 * m → 768 ≤ m → Builtin.growBy m r c ≤ 2 * m
  | 0, c, h, _ => h
  | r + 1, c, h, hm => by
    unfold Builtin.growBy
    split
    · exact h
    · exact growBy_le m r _ (by omega) hm
theorem growBy_le' (m : Nat) : ∀ (r c : Nat), c ≤ m → 256 ≤ c → Builtin.growBy m r c ≤ 2 * m
  | 0, c, h, _ => by show c ≤ _; omega
  | r + 1, c, h, hc => by
    unfold Builtin.growBy
    split
    · omega
    · rename_i hlt
      by_cases h2 : c + (c + 768) / 4 ≤ m
      · exact growBy_le' m r _ h2 (by omega)
      · have : Builtin.growBy m r (c + (c + 768) / 4) = c + (c + 768) / 4 := by
          cases r with
          | zero => rfl
          | succ r => unfold Builtin.growBy; rw [if_pos (by omega)]
        rw [this]
        omega
theorem nextslicecap_le (m c : Nat) (h : c < m) : Builtin.nextslicecap m c ≤ 2 * m := by
  unfold Builtin.nextslicecap
  split
  · omega
  · split
    · omega
    · exact growBy_le' m 4 c (by omega) (by omega)

section
variable {P : Program} {tt : TT} {n : Nat} {ops : Array Oper} {F : Fr} {H : AHeap} {dst : Option Tmp} {ty : TypeId} {pos : String} {af : Array Edge} {K : APost}

theorem run_firstCells {w : World} {es m : Nat} {a : Option Addr} {k cap : Nat} {cs : List Value} (hl : cs.length = m * es) (ha : cs = [] ∨ ∃ b o, a = some ⟨b, o, none⟩ ∧ ∀ j v, cs[j]? = some v → w.cell? ⟨b, o + j, none⟩ = some v) :
    (Builtin.firstCells es m (.slice a k cap)).run P w = .ok cs.toArray w := by
  rcases ha with rfl | ⟨b, o, rfl, hc⟩
  · cases a with
    | none => simp [Builtin.firstCells]
    | some a =>
      have h0 : m * es = 0 := by simpa using hl.symm
      have := run_loadCells_list (P := P) w a [] (fun j v hv => by simp at hv)
      simpa [Builtin.firstCells, h0] using this
  · have := run_loadCells_list (P := P) w ⟨b, o, none⟩ cs (fun j v hv => by rw [add_plain]; exact hc j v hv)
    rw [hl] at this
    simpa [Builtin.firstCells] using this

theorem run_storeCells_nil {w : World} (a : Addr) : (storeCells a [] 0).run P w = .ok () w := rfl

theorem get_append_left' {xs ys : List Value} {j : Nat} {v : Value} (h : xs[j]? = some v) : (xs ++ ys)[j]? = some v := by
  obtain ⟨hj, _⟩ := List.getElem?_eq_some_iff.1 h
  rw [List.getElem?_append_left hj]; exact h

/-- What an 'append' comes to: its operands' side. -/
def ownEs (es : Nat) : Own → Prop
  | .tok _ _ s => s = es
  | _ => True

theorem op_append (tk : TTok tt P) (hd : dstOk n dst = true) {t t2 : TypeId} {x y : Operand} {xs ys : List (List AVal)} {o o2 : Own} {e es eb : Nat} {e2 : Nat × Nat × Nat} (hx : opd F x = some (.sl xs o)) (hy : opd F y = some (.sl ys o2))
    (ht : find tt.slc t = some (e, es, eb)) (ht2 : find tt.slc t2 = some e2) (hux : Uni es xs) (huy : Uni es ys) (hfl : flatA ys.flatten = true) (hown : Owned H o) (hoe : ownEs es o) (hlen : (xs.length + ys.length) * eb ≤ 140737488355328)
    (hK : ∀ o', Apart (H.free o) o' → ownEs es o' → K (F.put dst (.sl (xs ++ ys) o')) ((H.free o).own o')) :
    AOp P n ops ⟨dst, .call { callee := .builtin .append, args := #[x, y], argTypes := #[t, t2] }, ty, pos, af, none⟩ F H K :=
  op_of_value hd fun g a w hi hf => by
    obtain ⟨hu, inf, z, hinf, hsz, hby, hes0, heb0, hz, hzs⟩ := tk.slc ht
    obtain ⟨hu2, _⟩ := tk.slc (e := e2.1) (es := e2.2.1) (eb := e2.2.2) ht2
    have hvx := hf.opd hx
    have hvy := hf.opd hy
    obtain ⟨ay, capy, ey, hcy, _, ds, hds, hdl, hdc⟩ := hvy.sl_cells hes0 huy
    obtain ⟨ax, capx, ex, hcx, _, cs, hcs, hcl, hcc⟩ := hvx.sl_cells hes0 hux
    have hfx : (Builtin.firstCells es xs.length (.slice ax xs.length capx)).run P w.drew = .ok cs.toArray w.drew := run_firstCells hcl (by
      rcases hcc with ⟨h1, h2, _⟩ | ⟨b, o, h1, h2, _⟩
      · exact .inl h2
      · exact .inr ⟨b, o, h1, h2⟩)
    have hfy : ∀ w', w'.heap = w.heap → (Builtin.firstCells es ys.length (.slice ay ys.length capy)).run P w' = .ok ds.toArray w' := fun w' hw' => run_firstCells hdl (by
      rcases hdc with ⟨h1, h2, _⟩ | ⟨b, o, h1, h2, _⟩
      · exact .inl h2
      · refine .inr ⟨b, o, h1, fun j v hv => ?_⟩
        have := h2 j v hv
        unfold World.cell? at this ⊢
        rw [hw']; exact this)
    have hlen' : xs.length + ys.length ≤ 140737488355328 := Nat.le_trans (Nat.le_mul_of_pos_right _ heb0) hlen
    have huxy := hux.append huy
    have hone : ∀ v ∈ ds, v.oneCell' = true := flat_one hds hfl
    by_cases hle : xs.length + ys.length ≤ capx
    · have hfyw := hfy w rfl
      rcases hcc with ⟨hxs0, hcs0, hcap0, hnt⟩ | ⟨b, off, rfl, hcell, himm, htok, hfull⟩
      · -- nil
        have hx0 : xs = [] := List.eq_nil_of_length_eq_zero (by omega)
        have hy0 : ys = [] := List.eq_nil_of_length_eq_zero (by omega)
        subst hx0 hy0
        cases o with
        | no => exact hown.elim
        | tok b e0 s => exact absurd rfl (hnt b e0 s)
        | full =>
          simp only [List.length_nil] at ex ey hfyw
          have hds0 : ds = [] := by simpa using hdl
          subst hds0
          exact ⟨.slice ax 0 capx, w, g, .sl ([] ++ []) .full, H, by cases ax <;> simp [execOp, resolve, invoke, builtin, Builtin.append_, ex, ey, run_underlying hu, run_underlying hu2, run_sizeOf' hinf, hsz, Builtin.lenOf, hfyw, storeCells], Ext.refl _ _, hi, by subst hcap0; exact .emptyF _, hK .full trivial trivial⟩
      · cases o with
        | no => exact hown.elim
        | full =>
          have hcap := hfull rfl
          have hy0 : ys = [] := List.eq_nil_of_length_eq_zero (by omega)
          subst hy0
          have hds0 : ds = [] := by simpa using hdl
          subst hds0
          simp only [List.length_nil] at ey hfyw
          refine ⟨.slice (some ⟨b, off, none⟩) xs.length capx, w, g, .sl (xs ++ []) .full, H, ?_, Ext.refl _ _, hi, by rw [ex] at hvx; simpa using hvx, hK .full trivial trivial⟩
          simp [execOp, resolve, invoke, builtin, Builtin.append_, ex, ey, run_underlying hu, run_underlying hu2, run_sizeOf' hinf, hsz, Builtin.lenOf, hcx, hfyw, storeCells]
        | tok b0 e0 s =>
          have hs : s = es := hoe
          subst hs
          obtain ⟨hb0, he0, hbase, el', nn, hs1, hs2⟩ := htok b0 e0 s rfl rfl
          subst hb0
          have hb : H b0 = some (.grow e0) := hown
          obtain ⟨_, ⟨hlim, hpr⟩, c, el, hw⟩ := hi.obj b0 _ hb
          simp only [World.shape?, hw] at hs1
          cases hs1
          have hmul : (xs.length + ys.length) * s ≤ capx * s := Nat.mul_le_mul_right _ hle
          have hadd : (xs.length + ys.length) * s = xs.length * s + ys.length * s := Nat.add_mul _ _ _
          have hst := run_storeCells_at P b0 (off + xs.length * s) el' ds 0 c w hw (by omega) hone
          simp only [Nat.add_zero] at hst
          have hc' : ∀ o, o < e0 → ((c.toList.take (off + xs.length * s) ++ ds ++ c.toList.drop (off + xs.length * s + ds.length)).toArray)[o]? = c[o]? := fun o ho => by
            have : o < (c.toList.take (off + xs.length * s)).length := by simp; omega
            simp only [List.getElem?_toArray, List.append_assoc]
            rw [List.getElem?_append_left this, List.getElem?_take, if_pos (by omega)]
            simp
          obtain ⟨hext, hinv⟩ := inv_grow hi hb (e' := off + (xs.length + ys.length) * s) hw (c' := (c.toList.take (off + xs.length * s) ++ ds ++ c.toList.drop (off + xs.length * s + ds.length)).toArray) (by simp; omega) (by omega) hc'
          refine ⟨.slice (some ⟨b0, off, none⟩) (xs ++ ys).length capx, _, _, .sl (xs ++ ys) (.tok b0 (off + (xs.length + ys.length) * s) s), _, ?_, hext, hinv, ?_, hK (.tok b0 (off + (xs.length + ys.length) * s) s) (by simp [AHeap.free, Apart, AHeap.del]) rfl⟩
          · simp [execOp, resolve, invoke, builtin, Builtin.append_, ex, ey, run_underlying hu, run_underlying hu2, run_sizeOf' hinf, hsz, Builtin.lenOf, hle, hfyw, add_plain, hst]
          · have hvr : VRs (g.fix b0 (off + (xs.length + ys.length) * s)) (w.setRow b0 (c.toList.take (off + xs.length * s) ++ ds ++ c.toList.drop (off + xs.length * s + ds.length)).toArray) (xs ++ ys).flatten (cs ++ ds) := by
              rw [List.flatten_append]; exact (hcs.mono hext).append (hds.mono hext)
            refine VR.sl_mk hes0 huxy hvr (fun j v hv => ?_) (by rw [List.length_append]; exact imm_seal _ _ _) (by simpa using hle) (by simp [maxLen]; omega) (hext.hasRow ⟨el', c.size, by simp [World.shape?, hw], by simpa using hs2⟩) ⟨rfl, by simp, rfl, by rw [hext.base]; exact hbase⟩
            rw [cell_setRow_same w b0 _ c _ el' (0, 0) hw]
            by_cases hj : j < cs.length
            · rw [List.getElem?_append_left hj] at hv
              have := hcell j v hv
              rw [cell_of_row w b0 _ c el' (0, 0) hw] at this
              rw [hc' _ (by omega)]
              exact this
            · rw [List.getElem?_append_right (by omega)] at hv
              obtain ⟨hj2, _⟩ := List.getElem?_eq_some_iff.1 hv
              have h1 : (c.toList.take (off + xs.length * s)).length = off + xs.length * s := by simp; omega
              simp only [List.getElem?_toArray, List.append_assoc]
              rw [List.getElem?_append_right (by omega), h1, show off + j - (off + xs.length * s) = j - cs.length by omega, List.getElem?_append_left hj2]
              exact hv
    · have hcapl : capx ≤ xs.length + ys.length := by omega
      have hmax : IntKind.i64.max = 9223372036854775807 := by decide
      have hnext : Builtin.nextslicecap (xs.length + ys.length) capx * eb ≤ 2 ^ 48 := by
        have h1 : Builtin.nextslicecap (xs.length + ys.length) capx ≤ 2 * (xs.length + ys.length) := by
          have := nextslicecap_le (xs.length + ys.length) capx (by omega)
          exact this
        have h2 := Nat.mul_le_mul_right eb h1
        rw [Nat.mul_assoc] at h2
        omega
      have hq : (Question.appendCap (xs.length + ys.length) capx e).forced = false := rfl
      let newCap := (Question.appendCap (xs.length + ys.length) capx e).cut (w.tape w.drawn (.appendCap (xs.length + ys.length) capx e))
      have hnc : xs.length + ys.length ≤ newCap := by simp only [newCap, Question.cut]; omega
      have hrun : (execOp a.eval ⟨dst, .call { callee := .builtin .append, args := #[x, y], argTypes := #[t, t2] }, ty, pos, af, none⟩).run P w =
          .ok (.value (.slice (some ⟨w.heap.size, 0, none⟩) (xs.length + ys.length) newCap)) (w.drew.alloc (.cells (cs.toArray ++ ds.toArray ++ Builtin.zeroCells z.cells (newCap - (xs.length + ys.length))) e)) := by
        have hc1 : ¬ (9223372036854775807 < (xs.length : Int) + (ys.length : Int)) := by omega
        have hc2 : ¬ (281474976710656 < Builtin.nextslicecap (xs.length + ys.length) capx * eb) := by omega
        have hfyd := hfy w.drew rfl
        simp [execOp, resolve, invoke, builtin, Builtin.append_, ex, ey, run_underlying hu, run_underlying hu2, run_sizeOf' hinf, hsz, Builtin.lenOf, hle, run_typeInfo _ hinf, hby, hc1, hc2, hq, hfx, hfyd, run_zeroValue' hinf hz, newRow, hmax]
        refine ⟨rfl, ?_⟩
        rw [← Array.append_assoc]
        simp [newCap]
      have hi' := hi.free (o := o) |>.drew
      obtain ⟨hext, hinv⟩ := inv_new hi' ((xs.length + ys.length) * es) (cs.toArray ++ ds.toArray ++ Builtin.zeroCells z.cells (newCap - (xs.length + ys.length))) e
      have hext' := (ext_drew g w).trans hext
      refine ⟨.slice (some ⟨w.heap.size, 0, none⟩) (xs ++ ys).length newCap, _, _, .sl (xs ++ ys) (.tok w.heap.size ((xs.length + ys.length) * es) es), _, by rw [hrun, List.length_append], hext', hinv, ?_, hK (.tok w.heap.size ((xs.length + ys.length) * es) es) (hi'.size_fresh) rfl⟩
      have hvr : VRs (g.fix w.drew.heap.size ((xs.length + ys.length) * es)) (w.drew.alloc (.cells (cs.toArray ++ ds.toArray ++ Builtin.zeroCells z.cells (newCap - (xs.length + ys.length))) e)) (xs ++ ys).flatten (cs ++ ds) := by
        rw [List.flatten_append]; exact (hcs.mono hext').append (hds.mono hext')
      refine VR.sl_mk hes0 huxy hvr (fun j v hv => ?_) (by rw [List.length_append, Nat.zero_add]; exact imm_seal _ _ _) (by simpa using hnc) (by simp [maxLen]; omega) ⟨e, _, by unfold World.shape?; rw [show w.heap.size = w.drew.heap.size from rfl, heap_alloc_new], ?_⟩ ⟨rfl, by simp, rfl, by rw [hext'.base]; exact hi.base_le⟩
      · rw [Nat.zero_add, show w.heap.size = w.drew.heap.size from rfl, cell_of_row _ _ j _ e (0, 0) (heap_alloc_new w.drew _)]
        have : (cs.toArray ++ ds.toArray ++ Builtin.zeroCells z.cells (newCap - (xs.length + ys.length))) = (cs ++ ds ++ (Builtin.zeroCells z.cells (newCap - (xs.length + ys.length))).toList).toArray := by simp
        rw [this, List.getElem?_toArray]
        exact get_append_left' hv
      · have hzc : (Builtin.zeroCells z.cells (newCap - (xs.length + ys.length))).size = (newCap - (xs.length + ys.length)) * es := by simp [Builtin.zeroCells, hzs]
        have h1 : newCap * es = (xs.length + ys.length) * es + (newCap - (xs.length + ys.length)) * es := by rw [← Nat.add_mul]; congr 1; omega
        have h2 : (xs.length + ys.length) * es = xs.length * es + ys.length * es := Nat.add_mul _ _ _
        simp [hzc, hcl, hdl]
        omega
end
end Abs
end Go.Proofs.Ytmokoofibnoojaa
