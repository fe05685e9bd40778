import Derived.Test.YtbldnaflffmddaaT1
import Derived.Test.YtbldnaflffmddaaA10
set_option linter.unusedVariables false
namespace Go.Proofs.Ytbldnaflffmddaa
namespace Abs
set_option maxRecDepth 10000
attribute [local irreducible] AOps AW AP ACalls thenQ inBlk noGoto

/-! ### node.Same -/
instance : DecidableEq Ent := fun a b => decidable_of_iff (a.name = b.name ∧ a.node = b.node) ⟨fun h => by cases a; cases b; simp_all, fun h => by subst h; exact ⟨rfl, rfl⟩⟩
def Node.same (a b : Node) : Bool := decide (a.kind = b.kind) && decide (a.mode = b.mode) && decide (a.uid = b.uid) && decide (a.gid = b.gid) && decide (a.target = b.target) && decide (a.data = b.data) && decide (a.ents = b.ents)
end Abs
end Go.Proofs.Ytbldnaflffmddaa

set_option linter.unusedVariables false
namespace Go.Proofs.Ytbldnaflffmddaa
namespace Abs
set_option maxRecDepth 10000
attribute [local irreducible] AOps AW AP ACalls thenQ inBlk noGoto

def Tab.sameTo (T U : Tab) : Nat → Bool
  | 0 => true
  | k + 1 => T.sameTo U k && (T.nd k).same (U.nd k)
def Tab.same (T U : Tab) : Bool := T.sameTo U 24
end Abs
end Go.Proofs.Ytbldnaflffmddaa

set_option linter.unusedVariables false
namespace Go.Proofs.Ytbldnaflffmddaa
namespace Abs
set_option maxRecDepth 10000
attribute [local irreducible] AOps AW AP ACalls thenQ inBlk noGoto

def encInts (l : List Int) : List (List AVal) := l.map fun n => [.i n]
theorem ints_len (l : List Int) : (encInts l).length = l.length := by simp [encInts]
end Abs
end Go.Proofs.Ytbldnaflffmddaa

set_option linter.unusedVariables false
namespace Go.Proofs.Ytbldnaflffmddaa
namespace Abs
set_option maxRecDepth 10000
attribute [local irreducible] AOps AW AP ACalls thenQ inBlk noGoto

/-! ### no table -/
theorem at_nil {i : Int} {H : AHeap} {K : AVal → AHeap → Prop} (hK : K .nilp H) : ACalls Try.prog 52 [.nilp, .i i] H K := by
  refine acalls_body Try.func52 rfl rfl rfl ?_
  repeat (first|(apply w1;apply rfl;apply rfl)|(apply w3;apply rfl;apply rfl)|apply w4|apply w5|apply w6|apply w7|(apply w8;apply rfl)|apply wd|apply we)
  exact rt1 rfl rfl (.refl _) (AHeap.sub_refl _) hK
theorem drop_nil {i : Int} {H : AHeap} {K : AVal → AHeap → Prop} (hK : K (.b false) H) : ACalls Try.prog 46 [.nilp, .i i] H K := by
  refine acalls_body Try.func46 rfl rfl rfl ?_
  repeat (first|(apply w1;apply rfl;apply rfl)|(apply w2;apply rfl)|(apply w3;apply rfl;apply rfl)|apply w4|apply w5|apply w6|apply w7|(apply w8;apply rfl)|(apply w9;apply rfl)|apply wa|apply wd|apply we|apply wb|apply wc|apply wf|apply wg|apply wh|(apply wi;apply rfl)|apply wj|apply wk|apply wl|apply wm|apply wn)
  refine s_call rfl rfl fk52 ?_
  refine at_nil ?_
  repeat (first|(apply w1;apply rfl;apply rfl)|(apply w2;apply rfl)|(apply w3;apply rfl;apply rfl)|apply w4|apply w5|apply w6|apply w7|(apply w8;apply rfl)|(apply w9;apply rfl)|apply wa|apply wd|apply we|apply wb|apply wc|apply wf|apply wg|apply wh|(apply wi;apply rfl)|apply wj|apply wk|apply wl|apply wm|apply wn)
  exact rt1 rfl rfl (.refl _) (AHeap.sub_refl _) hK
end Abs
end Go.Proofs.Ytbldnaflffmddaa
