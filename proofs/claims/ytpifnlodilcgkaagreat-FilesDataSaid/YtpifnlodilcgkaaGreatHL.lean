import Derived.Test.YtpifnlodilcgkaaGreatA10
import Derived.Test.YtpifnlodilcgkaaGreatP0
set_option linter.unusedVariables false
namespace Go.Proofs.YtpifnlodilcgkaaGreat
namespace Abs

/-! ### string(b) where the order is drawn -/
section
variable {P : Program} {tt : TT} {n : Nat} {ops : Array Oper} {F : Fr} {H : AHeap} {dst : Option Tmp} {ty : TypeId} {pos : String} {af : Array Edge} {gd : Option (Nat × Bool)} {K : APost}
theorem run_str (tk : TTok tt P) {t d : TypeId} {s : ByteArray} {o : Own} {e : Nat} {eb : Nat} {u : Unit} {g : Ghost} {w : World} {cv : Value} (hv : VR g w (.sl (s.data.toList.map fun c => [.sc (.int .u8 c.toNat)]) o) cv) (ht : find tt.slc t = some (e, 1, eb)) (he : find tt.ints e = some .u8) (hs : find tt.strs d = some u) :
    (convert t d cv).run P w = .ok (.string s) w := by
  obtain ⟨hu, inf, z, hinf, hsz, hby, hes0, heb0, hz, hzs⟩ := tk.slc ht
  have huni : Uni 1 (s.data.toList.map fun c => [AVal.sc (.int .u8 c.toNat)]) := fun y hy => by obtain ⟨c, _, rfl⟩ := List.mem_map.1 hy; rfl
  obtain ⟨ad, cap, hcv, _, _, cs, hcs, hcl, hc⟩ := hv.sl_cells hes0 huni
  have hstr : strOfNums (s.data.toList.map fun c => (c.toNat : Int)) = s := by
    have : (s.data.toList.map fun c => (c.toNat : Int)).map (fun n => UInt8.ofNat n.toNat) = s.data.toList := by
      rw [List.map_map]
      have : ((fun n : Int => UInt8.ofNat n.toNat) ∘ fun c : UInt8 => (c.toNat : Int)) = id := by funext c; simp
      rw [this, List.map_id]
    simp only [strOfNums, this]
  have hcells : ∀ j, j < s.data.toList.length → ∀ b o', ad = some ⟨b, o', none⟩ → (∀ j v, cs[j]? = some v → w.cell? ⟨b, o' + j, none⟩ = some v) → w.cell? ⟨b, o' + j, none⟩ = some (.int .u8 ((s.data.toList.map fun c => (c.toNat : Int)).getD j 0)) := fun j hj b o' _ hcc => by
    have hl := hcs.1
    have hfl : (s.data.toList.map fun c => [AVal.sc (.int .u8 c.toNat)]).flatten = s.data.toList.map fun c => AVal.sc (.int .u8 c.toNat) := flatten_single _ _
    rw [hfl] at hcs
    have hl := hcs.1
    simp only [List.length_map] at hl
    have h1 := hcs.2 j (by simpa using hj) (by omega)
    simp only [List.getElem_map] at h1
    have h2 := h1.eq_sc
    have := hcc j _ (List.getElem?_eq_getElem (by omega))
    rw [this, h2, List.getD_eq_getElem?_getD, List.getElem?_map, List.getElem?_eq_getElem hj]
    rfl
  rw [hcv]
  rcases hc with ⟨hx0, hcs0, _, _⟩ | ⟨b, o', rfl, hcc, _⟩
  · have : s = ByteArray.empty := by
      subst hcs0
      simpa using hcl.symm
    rw [this]
    have hl0 : ((ByteArray.empty).data.toList.map fun c => [AVal.sc (.int .u8 c.toNat)]).length = 0 := rfl
    rw [hl0]
    cases ad with
    | none => exact run_convert_bytes_nil w t e hu (tk.ints he) _ _ d (tk.strs hs)
    | some a0 =>
      have hl := run_loadCells_list (P := P) w a0 [] (fun j v hv => by simp at hv)
      rw [run_convert_bytes_string w t d e _ 0 cap hu (tk.ints he) (tk.strs hs), run_bytesToString w _ 0 cap [] hl]
      rfl
  · have := run_convert_bytes_arg (P := P) w t e hu (tk.ints he) b o' (s.data.toList.map fun c => [AVal.sc (.int .u8 c.toNat)]).length cap (s.data.toList.map fun c => (c.toNat : Int)) (by simp) (fun j hj => hcells j (by rw [List.length_map] at hj; exact hj) b o' rfl hcc) d (tk.strs hs)
    rw [hstr] at this
    exact this
theorem stab_str (tk : TTok tt P) {t d : TypeId} {x : Operand} {s : ByteArray} {o : Own} {e : Nat} {eb : Nat} {u : Unit} (hx : opd F x = some (.sl (s.data.toList.map fun c => [.sc (.int .u8 c.toNat)]) o)) (ht : find tt.slc t = some (e, 1, eb)) (he : find tt.ints e = some .u8) (hs : find tt.strs d = some u) :
    Stab P n ⟨dst, .convert t d x, ty, pos, af, none⟩ F H (.sc (.string s)) := fun g a w hi hf =>
  ⟨.string s, fun g' w' hex => by
    have hconv := run_str tk ((hf.opd hx).mono hex) ht he hs
    simp only [execOp, Sem.run_bind, hconv, Result.andThen_ok, Sem.run_pure], .sc trivial⟩
end
section
variable {n : Nat} {ops : Array Oper} {F : Fr} {H : AHeap} {K : APost} {i : Nat} {p : Plan} {dst : Option Tmp} {ty : TypeId} {pos : String} {af : Array Edge} {gd : Option (Nat × Bool)}
theorem d_str {t d : TypeId} {x : Operand} {s : ByteArray} {o : Own} {e : Nat} {eb : Nat} {u : Unit} (ho : ops[i]? = some ⟨dst, .convert t d x, ty, pos, af, gd⟩) (hg : gval ops F gd = some true) (hd : dstOk n dst = true) (hx : opd F x = some (.sl (s.data.toList.map fun c => [.sc (.int .u8 c.toNat)]) o)) (ht : find ttab.slc t = some (e, 1, eb)) (he : find ttab.ints e = some .u8) (hs : find ttab.strs d = some u)
    (h : AP Tryz.prog n ops p (F.put dst (.sc (.string s))) H K) : AP Tryz.prog n ops (.take i p) F H K := d_stab ho hg hd (stab_str tk hx ht he hs) h
end
end Abs
end Go.Proofs.YtpifnlodilcgkaaGreat
