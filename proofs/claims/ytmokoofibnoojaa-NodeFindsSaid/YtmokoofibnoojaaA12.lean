import Derived.Test.YtmokoofibnoojaaA11
set_option linter.unusedVariables false
namespace Go.Proofs.Ytmokoofibnoojaa
namespace Abs

/-! ### for i, c := range s -/
def notCells : Obj → Bool
  | .cells .. => false
  | _ => true
def World.withObj (w : World) (b : Nat) (o : Obj) : World := { w with heap := w.heap.setIfInBounds b o }
theorem withObj_other (w : World) (b k : Nat) (o : Obj) (h : k ≠ b) : (World.withObj w b o).heap[k]? = w.heap[k]? := by
  simp only [World.withObj]; rw [Array.getElem?_setIfInBounds_ne (Ne.symm h)]
theorem withObj_same (w : World) (b : Nat) (o o' : Obj) (h : w.heap[b]? = some o') : (World.withObj w b o).heap[b]? = some o := by
  obtain ⟨hb, _⟩ := Array.getElem?_eq_some_iff.1 h
  simp only [World.withObj]; rw [Array.getElem?_setIfInBounds_self_of_lt hb]
theorem ext_withObj {g : Ghost} {w : World} {b : Nat} {o o' : Obj} (hb : w.heap[b]? = some o) (ho : notCells o = true) (ho' : notCells o' = true) (hbase : g.base ≤ b) (hpr : ¬ g.pr b) : Ext g w g (World.withObj w b o') := by
  have hs := withObj_same w b o' o hb
  refine ⟨rfl, rfl, rfl, rfl, by simp [World.withObj], fun k hk => withObj_other w b k o' (by omega), fun _ => Nat.le_refl _, fun k off _ => ?_, fun k hk => ?_, rfl, fun k hk => withObj_other w b k o' (fun e => hpr (e ▸ hk))⟩
  · by_cases e : k = b
    · subst e
      unfold World.cell?
      simp only [hs, hb]
      cases o <;> cases o' <;> simp_all [notCells]
    · unfold World.cell?
      simp only [withObj_other w b k o' e]
  · by_cases e : k = b
    · subst e
      unfold World.shape?
      simp only [hs, hb]
      cases o <;> cases o' <;> simp_all [notCells]
    · unfold World.shape?
      simp only [withObj_other w b k o' e]
theorem ObjOk.at {g : Ghost} {w w' : World} (he : Ext g w g w') {k : Nat} {p : HObj} (hk : w'.heap[k]? = w.heap[k]?) (h : ObjOk g w k p) : ObjOk g w' k p := by
  cases p with
  | cells cs =>
    obtain ⟨h1, c, el, h2, h3, h4⟩ := h
    exact ⟨h1, c, el, hk.trans h2, h3, fun j a b => (h4 j a b).mono he⟩
  | ro cs =>
    obtain ⟨h1, c, el, h2, h3, h4⟩ := h
    exact ⟨h1, c, el, hk.trans h2, h3, fun j a b => (h4 j a b).mono he⟩
  | grow e =>
    obtain ⟨h1, c, el, h2⟩ := h
    exact ⟨h1, c, el, hk.trans h2⟩
  | amap es =>
    obtain ⟨h1, c, el, h2, h3, h4⟩ := h
    exact ⟨h1, c, el, hk.trans h2, h3, fun j a b => ⟨(h4 j a b).1, (h4 j a b).2.mono he⟩⟩
  | iter s pos => exact ⟨h.1, hk.trans h.2⟩
theorem inv_withObj {g : Ghost} {w : World} {H : AHeap} (hi : Inv g w H) {b : Nat} {p p' : HObj} (hH : H b = some p) {o o' : Obj} (hb : w.heap[b]? = some o) (ho : notCells o = true) (ho' : notCells o' = true) (hpr : ¬ g.pr b)
    (hok : Ext g w g (World.withObj w b o') → ObjOk g (World.withObj w b o') b p') : Ext g w g (World.withObj w b o') ∧ Inv g (World.withObj w b o') (H.put b p') := by
  have hbase := (hi.obj b p hH).1
  have he := ext_withObj hb ho ho' hbase hpr
  refine ⟨he, ⟨by simpa [World.withObj] using hi.base_le, fun k hk => hi.fresh k (by simpa [World.withObj] using hk), fun k q hk => ?_⟩⟩
  by_cases e : k = b
  · subst e
    rw [put_same] at hk
    cases hk
    exact ⟨hbase, hok he⟩
  · rw [put_ne e] at hk
    exact ⟨(hi.obj k q hk).1, (hi.obj k q hk).2.at he (withObj_other w b k o' e)⟩
theorem inv_allocObj {g : Ghost} {w : World} {H : AHeap} (hi : Inv g w H) {o : Obj} {p : HObj} (hok : Ext g w g (w.alloc o) → ObjOk g (w.alloc o) w.heap.size p) : Ext g w g (w.alloc o) ∧ Inv g (w.alloc o) (H.put w.heap.size p) := by
  have he := ext_alloc hi.base_le (hi.fresh _ (Nat.le_refl _)).1 (hi.fresh _ (Nat.le_refl _)).2 o
  refine ⟨he, ⟨by have := hi.base_le; simp; omega, fun k hk => hi.fresh k (by simp at hk; omega), fun k q hk => ?_⟩⟩
  by_cases e : k = w.heap.size
  · subst e
    rw [put_same] at hk
    cases hk
    exact ⟨hi.base_le, hok he⟩
  · rw [put_ne e] at hk
    exact ⟨(hi.obj k q hk).1, (hi.obj k q hk).2.alloc he⟩
section
variable {P : Program} {tt : TT} {n : Nat} {ops : Array Oper} {rest : List Oper} {F : Fr} {H : AHeap} {dst : Option Tmp} {ty : TypeId} {pos : String} {af : Array Edge} {K : APost}
theorem VR.ptr_eq {g : Ghost} {w : World} {b off : Nat} {cv : Value} (h : VR g w (.ptr b off) cv) : cv = .pointer (some ⟨b, off, none⟩) := by cases h; rfl
theorem s_range (tk : TTok tt P) {t : TypeId} {x : Operand} {s : ByteArray} {u : Unit} (hd : dstOk n dst = true) (hx : opd F x = some (.sc (.string s))) (ht : find tt.strs t = some u)
    (hK : ∀ b, H b = none → AOps P n ops rest (F.put dst (.ptr b 0)) (H.put b (.iter s 0)) K) : AOps P n ops (⟨dst, .range t x, ty, pos, af, none⟩ :: rest) F H K :=
  AOps_cons (op_of_value hd fun g a w hi hf => by
    have ex := (hf.opd hx).eq_sc
    have hu := tk.strs ht
    obtain ⟨he, hi'⟩ := inv_allocObj hi (o := .stringIter s 0) (p := .iter s 0) (fun _ => ⟨hi.fresh _ (Nat.le_refl _), heap_alloc_new w _⟩)
    refine ⟨.pointer (some ⟨w.heap.size, 0, none⟩), _, g, .ptr w.heap.size 0, _, ?_, he, hi', .ptr, hK _ hi.size_fresh⟩
    simp [execOp, Instr.range, ex, run_underlying hu])
theorem s_next {x : Operand} {b p : Nat} {s : ByteArray} {m : Bool} (hd : dstOk n dst = true) (hx : opd F x = some (.ptr b 0)) (hH : H b = some (.iter s p)) (hp : p < s.size)
    (hK : AOps P n ops rest (F.put dst (.tup [.sc (.bool true), .sc (.int .i64 p), .sc (.int .i32 (Utf8.decode s p).1)])) (H.put b (.iter s (p + (Utf8.decode s p).2))) K) : AOps P n ops (⟨dst, .next x true, ty, pos, af, none⟩ :: rest) F H K :=
  AOps_cons (op_of_value hd fun g a w hi hf => by
    have ex := VR.ptr_eq (hf.opd hx)
    obtain ⟨hbase, ⟨hlim, hpr⟩, hw⟩ := hi.obj b _ hH
    obtain ⟨he, hi'⟩ := inv_withObj hi hH hw (o' := .stringIter s (p + (Utf8.decode s p).2)) (p' := .iter s (p + (Utf8.decode s p).2)) rfl rfl hpr (fun _ => ⟨⟨hlim, hpr⟩, withObj_same w b _ _ hw⟩)
    refine ⟨.tuple #[.bool true, .int .i64 p, .int .i32 (Utf8.decode s p).1], _, g, .tup [.sc (.bool true), .sc (.int .i64 p), .sc (.int .i32 (Utf8.decode s p).1)], _, ?_, he, hi', ?_, hK⟩
    · have hn : (Instr.next (.pointer (some ⟨b, 0, none⟩)) true ty).run P w = .ok (.tuple #[.bool true, .int .i64 p, .int .i32 (Utf8.decode s p).1]) (World.withObj w b (.stringIter s (p + (Utf8.decode s p).2))) := by
        simp only [Instr.next, getObj, setObj, Sem.run_bind, Sem.run, hw, Result.andThen, hp, if_true]
        simp [goInt, World.withObj]
      simp only [execOp, ex, Sem.run_bind, hn, Result.andThen_ok, Sem.run_pure]
    · exact .tup rfl (fun j h h' => match j with | 0 => .sc trivial | 1 => .sc trivial | 2 => .sc trivial)
    )
theorem s_next_end {x : Operand} {b p : Nat} {s : ByteArray} (hd : dstOk n dst = true) (hx : opd F x = some (.ptr b 0)) (hH : H b = some (.iter s p)) (hp : s.size ≤ p)
    (hK : AOps P n ops rest (F.put dst (.tup [.sc (.bool false)])) H K) : AOps P n ops (⟨dst, .next x true, ty, pos, af, none⟩ :: rest) F H K :=
  AOps_cons (op_of_value hd fun g a w hi hf => by
    have ex := VR.ptr_eq (hf.opd hx)
    obtain ⟨hbase, ⟨hlim, hpr⟩, hw⟩ := hi.obj b _ hH
    have hp' : ¬ p < s.size := by omega
    refine ⟨.tuple #[.bool false], w, g, .tup [.sc (.bool false)], H, ?_, Ext.refl _ _, hi, .tup rfl (fun j h h' => match j with | 0 => .sc trivial), hK⟩
    have hn : (Instr.next (.pointer (some ⟨b, 0, none⟩)) true ty).run P w = .ok (.tuple #[.bool false]) w := by
      simp only [Instr.next, getObj, Sem.run_bind, Sem.run, hw, Result.andThen, hp', if_false]
      simp
    simp only [execOp, ex, Sem.run_bind, hn, Result.andThen_ok, Sem.run_pure])
end
end Abs
end Go.Proofs.Ytmokoofibnoojaa
