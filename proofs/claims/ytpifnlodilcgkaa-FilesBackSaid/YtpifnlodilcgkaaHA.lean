import Derived.Test.YtpifnlodilcgkaaXN
import Derived.Test.YtpifnlodilcgkaaGA
set_option linter.unusedVariables false
namespace Go.Proofs.Ytpifnlodilcgkaa
namespace Abs

/-! ### copy, and a part of a row of the call's own -/
section
variable {P : Program} {tt : TT} {n : Nat} {ops : Array Oper} {rest : List Oper} {F : Fr} {H : AHeap} {dst : Option Tmp} {ty : TypeId} {pos : String} {af : Array Edge} {K : APost}
theorem s_copyk (tk : TTok tt P) (hd : dstOk n dst = true) {t t2 : TypeId} {x y : Operand} {b off m cap : Nat} {xs : List (List AVal)} {o2 : Own} {e es eb : Nat} {cs : List AVal} (hx : opd F x = some (.row b off m cap)) (hy : opd F y = some (.sl xs o2)) (hH : H b = some (.cells cs))
    (ht : find tt.slc t = some (e, es, eb)) (hux : Uni es xs) (hfl : flatA xs.flatten = true) {k : Nat} (hm : min xs.length m = k) (hfit : off + k * es ≤ cs.length)
    (hK : AOps P n ops rest (F.put dst (.sc (.int .i64 k))) (H.put b (.cells (cs.take off ++ (xs.flatten.take (k * es)) ++ cs.drop (off + k * es)))) K) :
    AOps P n ops (⟨dst, .call { callee := .builtin .copy, args := #[x, y], argTypes := #[t, t2] }, ty, pos, af, none⟩ :: rest) F H K :=
  AOps_cons (op_of_value hd fun g a w hi hf => by
    obtain ⟨hu, inf, z, hinf, hsz, hby, hes0, heb0, hiz, hzs⟩ := tk.slc ht
    have hvx := hf.opd hx
    have hvy := hf.opd hy
    obtain ⟨ay, capy, ey, hcy, _, ds, hds, hdl, hdc⟩ := hvy.sl_cells hes0 hux
    have ex : a.eval x = .slice (some ⟨b, off, none⟩) m cap := by
      generalize a.eval x = cv at hvx
      cases hvx; rfl
    obtain ⟨c, el, hb, hvs⟩ := (hi.obj b _ hH).2.vrs
    have hlen := hvs.1
    have hme : k * es ≤ xs.length * es := Nat.mul_le_mul_right _ (by omega)
    have hvd : VRs g w (xs.flatten.take (k * es)) (ds.take (k * es)) := hds.take _
    have hdl' : (ds.take (k * es)).length = k * es := by rw [List.length_take]; omega
    have hone : ∀ v ∈ ds.take (k * es), v.oneCell' = true := fun v hv => flat_one hds hfl v (List.mem_of_mem_take hv)
    have hfy : (Builtin.firstCells es k (.slice ay xs.length capy)).run P w = .ok (ds.take (k * es)).toArray w := run_firstCells hdl' (by
      rcases hdc with ⟨h1, h2, _⟩ | ⟨b', o, h1, h2, _⟩
      · exact .inl (by rw [h2]; simp)
      · exact .inr ⟨b', o, h1, fun j v hv => h2 j v (by rw [List.getElem?_take] at hv; split at hv <;> first | exact hv | cases hv)⟩)
    have hst := run_storeCells_at P b off el (ds.take (k * es)) 0 c w hb (by simp at hlen ⊢; omega) hone
    simp only [Nat.add_zero, hdl'] at hst
    obtain ⟨he, hi'⟩ := inv_store hi hH hb (c' := c.toList.take off ++ ds.take (k * es) ++ c.toList.drop (off + k * es)) (by simp at hlen ⊢; omega) (((hvs.take off).append hvd).append (hvs.drop (off + k * es)))
    refine ⟨.int .i64 k, _, g, .sc (.int .i64 k), _, ?_, he, hi', .sc trivial, hK⟩
    have hmin : min xs.length m = k := hm
    have hmin2 : Nat.min xs.length m = k := hmin
    simp [execOp, resolve, invoke, builtin, Builtin.copy_, ex, ey, run_underlying hu, run_sizeOf' hinf, hsz, Builtin.lenOf, hmin2, hfy, hst, goInt])
theorem pures_slice_row (tk : TTok tt P) {t : TypeId} {x : Operand} {lo : Option Operand} {b off m cap : Nat} {e es eb : Nat} {l : Int} (hx : opd F x = some (.row b off m cap)) (ht : find tt.slc t = some (e, es, eb))
    (hl : bnd F 0 lo = some l) (h0 : 0 ≤ l) (h1 : l < m) (hc : m ≤ cap) : Pures P n ⟨dst, .slice t x lo none none, ty, pos, af, none⟩ F (.row b (off + l.toNat * es) (m - l.toNat) (cap - l.toNat)) := fun g a w hf => by
  obtain ⟨hu, inf, z, hinf, hsz, hby, hes0, heb0, hz, hzs⟩ := tk.slc ht
  have hv := hf.opd hx
  have ex : a.eval x = .slice (some ⟨b, off, none⟩) m cap := by
    generalize a.eval x = cv at hv
    cases hv; rfl
  have hsb : ∀ w' : World, (Instr.sliceBounds true m cap (lo.map a.eval) none none).run P w' = .ok (l.toNat, m, cap) w' := fun w' =>
    run_bounds (P := P) hf (len := m) (cap := cap) (hi := none) true hl (show bnd F m none = some (m : Int) from rfl) h0 (by omega) (by omega) w'
  have hne : ¬ cap = l.toNat := by omega
  exact ⟨.slice (some ⟨b, off + l.toNat * es, none⟩) (m - l.toNat) (cap - l.toNat), fun w' => by simp [execOp, Instr.sliceAt, Instr.slice, ex, run_underlying hu, hsb w', run_sizeOf' hinf, hsz, hne, add_plain], .row⟩
theorem s_slicerow (tk : TTok tt P) {t : TypeId} {x : Operand} {lo : Option Operand} {b off m cap : Nat} {e es eb : Nat} {l : Int} (hd : dstOk n dst = true) (hx : opd F x = some (.row b off m cap)) (ht : find tt.slc t = some (e, es, eb))
    (hl : bnd F 0 lo = some l) (h0 : 0 ≤ l) (h1 : l < m) (hc : m ≤ cap) (hK : AOps P n ops rest (F.put dst (.row b (off + l.toNat * es) (m - l.toNat) (cap - l.toNat))) H K) : AOps P n ops (⟨dst, .slice t x lo none none, ty, pos, af, none⟩ :: rest) F H K :=
  AOps_cons (op_of_pures (pures_slice_row tk hx ht hl h0 h1 hc) hd hK)
end
end Abs
end Go.Proofs.Ytpifnlodilcgkaa
