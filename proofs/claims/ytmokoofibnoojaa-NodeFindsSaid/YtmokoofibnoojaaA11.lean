import Derived.Test.YtmokoofibnoojaaA10
import Derived.Laws.MakeOwn
set_option linter.unusedVariables false
namespace Go.Proofs.Ytmokoofibnoojaa
namespace Abs

/-! ### make([]T, l, c) -/
def rep (n : Nat) (cs : List AVal) : List AVal := (List.replicate n cs).flatten
theorem rep_uni (n : Nat) (cs : List AVal) : Uni cs.length (List.replicate n cs) := fun x hx => by rw [List.eq_of_mem_replicate hx]
theorem rep_len (n : Nat) (cs : List AVal) : (rep n cs).length = n * cs.length := by
  unfold rep; rw [(rep_uni n cs).len, List.length_replicate]
theorem rep_get (n : Nat) (cs : List AVal) (i : Nat) (hi : i < n * cs.length) : (rep n cs)[i]? = cs[i % cs.length]? := by
  have hp : 0 < cs.length := by
    rcases Nat.eq_zero_or_pos cs.length with h | h
    · rw [h] at hi; omega
    · exact h
  have e : i = (i / cs.length) * cs.length + i % cs.length := by rw [Nat.mul_comm]; exact (Nat.div_add_mod i cs.length).symm
  have hlt : i / cs.length < n := Nat.div_lt_of_lt_mul (by rw [Nat.mul_comm]; exact hi)
  unfold rep
  conv => lhs; rw [e]
  rw [(rep_uni n cs).flat_get _ _ (Nat.mod_lt _ hp), List.getElem?_replicate, if_pos hlt]
  rfl
section
variable {P : Program} {tt : TT} {n : Nat} {ops : Array Oper} {rest : List Oper} {F : Fr} {H : AHeap} {dst : Option Tmp} {ty : TypeId} {pos : String} {af : Array Edge} {K : APost}
theorem s_make (tk : TTok tt P) {t : TypeId} {x y : Operand} {j k : IntKind} {p q : Int} {e es eb : Nat} {zs : List Value} {cs : List AVal} (hd : dstOk n dst = true) (hx : opd F x = some (.sc (.int j p))) (hy : opd F y = some (.sc (.int k q)))
    (ht : find tt.slc t = some (e, es, eb)) (hz : find tt.zero e = some zs) (hc : absL zs = some cs) (h0 : 0 ≤ p) (h1 : p ≤ q) (h2 : eb * q ≤ 140737488355328)
    (hK : ∀ b, H b = none → AOps P n ops rest (F.put dst (.row b 0 p.toNat q.toNat)) (H.put b (.cells (rep q.toNat cs))) K) : AOps P n ops (⟨dst, .makeSlice t x y, ty, pos, af, none⟩ :: rest) F H K :=
  AOps_cons (op_of_value hd fun g a w hi hf => by
    obtain ⟨hu, i, z, hinf, hsz, hby, hes0, heb0, hiz, hzs⟩ := tk.slc ht
    obtain ⟨i', z', hinf', hiz', hzl⟩ := tk.zero hz
    have : i' = i := by rw [hinf] at hinf'; cases hinf'; rfl
    subst this
    have : z' = z := by rw [hiz] at hiz'; cases hiz'; rfl
    subst this
    have hx' := hf.opd hx
    have hy' := hf.opd hy
    have scq : ∀ {v cv : Value}, VR g w (.sc v) cv → cv = v := fun h => by cases h; rfl
    have ex : a.eval x = .int j p := scq hx'
    have ey : a.eval y = .int k q := scq hy'
    have hb1 : (1 : Int) ≤ eb := by omega
    have hq : q ≤ eb * q := by
      have : 1 * q ≤ eb * q := Int.mul_le_mul_of_nonneg_right hb1 (by omega)
      omega
    have hr := run_make (P := P) w t e i' z' hu hinf hiz j k p q h0 h1 (by rw [hby]; omega) (by omega)
    have hcs : cs.length = es := by
      have h := (absL_ok (g := g) (w := w) hc).1
      rw [h, ← hzl, Array.length_toList (xs := z'.cells)]; exact hzs
    have hvr : VRs g w (rep q.toNat cs) (madeCells z'.cells (q.toNat * i'.size)).toList := by
      refine ⟨by rw [rep_len, Array.length_toList (xs := madeCells _ _), size_madeCells, hsz, hcs], fun m hm hm' => ?_⟩
      have hm1 : m < q.toNat * cs.length := by rw [← rep_len]; exact hm
      have hmod : m % cs.length < cs.length := Nat.mod_lt _ (by omega)
      have e1 : (rep q.toNat cs)[m] = cs[m % cs.length] := by
        have := rep_get q.toNat cs m hm1
        rw [List.getElem?_eq_getElem hm, List.getElem?_eq_getElem hmod] at this
        exact Option.some.inj this
      have hzz : m % z'.cells.size < z'.cells.size := Nat.mod_lt _ (by omega)
      have e2 : (madeCells z'.cells (q.toNat * i'.size)).toList[m] = z'.cells[m % z'.cells.size] := by
        simp [madeCells, hzz]
      rw [e1, e2]
      have h := (absL_ok (g := g) (w := w) hc).2 (m % cs.length) hmod (by rw [← hzl, Array.length_toList (xs := z'.cells), hzs, ← hcs]; exact hmod)
      have e3 : m % cs.length = m % z'.cells.size := by rw [hcs, hzs]
      subst hzl
      simp only [Array.getElem_toList, e3] at h ⊢
      exact h
    obtain ⟨he, hi'⟩ := inv_alloc hi e hvr
    rw [Array.toArray_toList] at he hi'
    refine ⟨.slice (some ⟨w.heap.size, 0, none⟩) p.toNat q.toNat, _, g, .row w.heap.size 0 p.toNat q.toNat, _, ?_, he, hi', .row, hK _ hi.size_fresh⟩
    simp only [execOp, ex, ey, Sem.run_bind, hr, Result.andThen_ok, Sem.run_pure])
end
end Abs
end Go.Proofs.Ytmokoofibnoojaa
