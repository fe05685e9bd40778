import Derived.Test.YtmokoofibnoojaaM0
import Derived.Test.YtmokoofibnoojaaShelf
set_option linter.unusedVariables false
namespace Go.Proofs.Ytmokoofibnoojaa
namespace Abs
set_option maxRecDepth 10000

/-! ### What the library's functions come to -/
def hasB (s : ByteArray) (c : UInt8) : Bool := s.data.toList.contains c

theorem acalls_same {P : Program} {f : FuncId} {vals : List Value} {r : Value} {H : AHeap} {K : AVal → AHeap → Prop} (hr : plainB r = true) (h : ∀ w, Calls P f vals.toArray w fun e w' => e = .returned r ∧ w' = w) (hK : K (.sc r) H) :
    ACalls P f (vals.map .sc) H K := fun g w cargs hi hl hv => by
  have : cargs = vals.toArray := by
    apply Array.ext
    · simpa using hl.symm
    · intro j h1 h2
      have := hv j (by simpa using h2) h1
      simp only [List.getElem_map] at this
      simpa using this.eq_sc
  subst this
  exact (h w).mono fun e w' ⟨he, hw⟩ => ⟨r, g, .sc r, H, he, hw ▸ Ext.refl _ _, hw ▸ hi, .sc (plain_of_B hr), hK⟩

theorem indexByte_lt (l : List UInt8) (c : UInt8) : decide (Lib.indexByte l c < 0) = !l.contains c := by
  induction l with
  | nil => rfl
  | cons b l ih =>
    have hge := Lib.indexByte_ge l c
    unfold Lib.indexByte
    by_cases h : b = c
    · subst h; simp
    · have h1 : (b == c) = false := by simpa using h
      have h2 : (c == b) = false := by simpa using (fun e : c = b => h e.symm)
      rw [if_neg (by simp [h1])]
      simp only [List.contains_cons, h2, Bool.false_or]
      rw [← ih]
      split
      · rename_i h3
        have := beq_iff_eq.1 h3
        simp [this]
      · rename_i h3
        have h4 : ¬ Lib.indexByte l c = -1 := fun e => h3 (by simp [e])
        simp only [decide_eq_decide]
        omega

theorem indexByte_c {s : ByteArray} {c : UInt8} {n : Int} {H : AHeap} {K : AVal → AHeap → Prop} (hn : n = (c.toNat : Int)) (hK : ∀ r : Int, decide (r < 0) = (!hasB s c) → K (.i r) H) : ACalls Try.prog 86 [.s s, .sc (.int .u8 n)] H K := by
  subst hn
  have h := Try.strings_IndexByte s (c.toNat : Int)
  have e : ((c.toNat : Int)).toNat.toUInt8 = c := by simp
  rw [e] at h
  exact acalls_same (vals := [.string s, .int .u8 (c.toNat : Int)]) rfl (fun w => h w) (hK _ (indexByte_lt _ _))

end Abs
end Go.Proofs.Ytmokoofibnoojaa
