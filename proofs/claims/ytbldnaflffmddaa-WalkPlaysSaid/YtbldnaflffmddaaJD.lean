import Derived.Test.YtbldnaflffmddaaJC
import Derived.Test.YtbldnaflffmddaaV4
set_option linter.unusedVariables false
namespace Go.Proofs.Ytbldnaflffmddaa
namespace Abs

/-! ### maps: a new one -/
section
variable {P : Program} {tt : TT} {n : Nat} {ops : Array Oper} {rest : List Oper} {F : Fr} {H : AHeap} {dst : Option Tmp} {ty : TypeId} {pos : String} {af : Array Edge} {K : APost}
theorem s_makemap {t : TypeId} (hd : dstOk n dst = true) (hK : ∀ b, H b = none → AOps P n ops rest (F.put dst (.mapv b)) (H.put b (.amap [])) K) : AOps P n ops (⟨dst, .makeMap t none, ty, pos, af, none⟩ :: rest) F H K :=
  AOps_cons (op_of_value hd fun g a w hi hf => by
    obtain ⟨he, hi'⟩ := inv_allocObj hi (o := .map #[] 0) (p := .amap []) (fun _ => ⟨hi.fresh _ (Nat.le_refl _), #[], 0, heap_alloc_new w _, rfl, fun j h => absurd h (Nat.not_lt_zero _)⟩)
    refine ⟨.map (some w.heap.size), _, g, .mapv w.heap.size, _, ?_, he, hi', .mapv, hK _ hi.size_fresh⟩
    simp [execOp, Instr.makeMap])
end
end Abs
end Go.Proofs.Ytbldnaflffmddaa
