import Derived.Test.YtbldnaflffmddaaV4
import Derived.Test.YtbldnaflffmddaaM2
import Derived.Test.YtbldnaflffmddaaS1
import Derived.Test.YtbldnaflffmddaaL1
import Derived.Test.YtbldnaflffmddaaQ4
import Derived.Test.YtbldnaflffmddaaQ1
set_option linter.unusedVariables false
namespace Go.Proofs.Ytbldnaflffmddaa
namespace Abs

/-! ### sorting by insertion is sorting: the plain law -/
def leB (a b : ByteArray) : Prop := tl a ≤ tl b
theorem sortB_perm (l : List ByteArray) : (sortB l).Perm l := by
  have h := ((List.mergeSort_perm (l.map fun s => s.data.toList) fun x y => decide (x ≤ y)).map fun t : List UInt8 => (⟨t.toArray⟩ : ByteArray))
  rw [List.map_map] at h
  have e : ((fun t : List UInt8 => (⟨t.toArray⟩ : ByteArray)) ∘ fun s : ByteArray => s.data.toList) = id := by
    funext s; simp
  rw [e, List.map_id] at h
  exact h
theorem sortB_sorted (l : List ByteArray) : (sortB l).Pairwise leB := by
  unfold sortB
  rw [List.pairwise_map]
  refine (List.pairwise_mergeSort (le := fun x y : List UInt8 => decide (x ≤ y)) ?_ ?_ _).imp ?_
  · intro a b c h k
    simp only [decide_eq_true_eq] at h k ⊢
    exact List.le_trans h k
  · intro a b
    simp only [Bool.or_eq_true, decide_eq_true_eq]
    exact List.le_total a b
  · intro a b h
    simpa [leB, tl] using h
theorem sort_unique {l m : List ByteArray} (hp : l.Perm m) (hl : l.Pairwise leB) (hm : m.Pairwise leB) : l = m :=
  List.Perm.eq_of_pairwise (fun a b _ _ h k => tl_inj (List.le_antisymm h k)) hl hm hp
end Abs
end Go.Proofs.Ytbldnaflffmddaa

set_option linter.unusedVariables false
namespace Go.Proofs.Ytbldnaflffmddaa
namespace Abs

/-! ### an entry more: the plain law -/
end Abs
end Go.Proofs.Ytbldnaflffmddaa

set_option linter.unusedVariables false
namespace Go.Proofs.Ytbldnaflffmddaa
namespace Abs
set_option linter.unusedSimpArgs false
set_option maxRecDepth 10000
set_option maxHeartbeats 2000000
attribute [local irreducible] AOps AW AP ACalls thenQ inBlk noGoto

/-! ### chapter 08: the document's example -/
end Abs
end Go.Proofs.Ytbldnaflffmddaa

set_option linter.unusedVariables false
namespace Go.Proofs.Ytbldnaflffmddaa
namespace Abs
set_option linter.unusedSimpArgs false
set_option maxRecDepth 10000
set_option maxHeartbeats 2000000
attribute [local irreducible] AOps AW AP ACalls thenQ inBlk noGoto

/-! ### NodeRight, NodeChanges -/
end Abs
end Go.Proofs.Ytbldnaflffmddaa
