import Derived.Test.YtpifnlodilcgkaaGreatT1
import Derived.Test.YtpifnlodilcgkaaGreatA10
set_option linter.unusedVariables false
namespace Go.Proofs.YtpifnlodilcgkaaGreat
namespace Abs
set_option maxRecDepth 10000
attribute [local irreducible] AOps AW AP ACalls thenQ inBlk noGoto

/-! ### node.Same -/
instance : DecidableEq Ent := fun a b => decidable_of_iff (a.name = b.name ∧ a.node = b.node) ⟨fun h => by cases a; cases b; simp_all, fun h => by subst h; exact ⟨rfl, rfl⟩⟩
def Node.same (a b : Node) : Bool := decide (a.kind = b.kind) && decide (a.mode = b.mode) && decide (a.uid = b.uid) && decide (a.gid = b.gid) && decide (a.target = b.target) && decide (a.data = b.data) && decide (a.ents = b.ents)
end Abs
end Go.Proofs.YtpifnlodilcgkaaGreat

set_option linter.unusedVariables false
namespace Go.Proofs.YtpifnlodilcgkaaGreat
namespace Abs
set_option maxRecDepth 10000
attribute [local irreducible] AOps AW AP ACalls thenQ inBlk noGoto

def Tab.sameTo (T U : Tab) : Nat → Bool
  | 0 => true
  | k + 1 => T.sameTo U k && (T.nd k).same (U.nd k)
def Tab.same (T U : Tab) : Bool := T.sameTo U 24
end Abs
end Go.Proofs.YtpifnlodilcgkaaGreat

set_option linter.unusedVariables false
namespace Go.Proofs.YtpifnlodilcgkaaGreat
namespace Abs
set_option maxRecDepth 10000
attribute [local irreducible] AOps AW AP ACalls thenQ inBlk noGoto

def encInts (l : List Int) : List (List AVal) := l.map fun n => [.i n]
theorem ints_len (l : List Int) : (encInts l).length = l.length := by simp [encInts]
def Tab.rooted (T : Tab) : Nat → Int → Bool
  | 0, _ => false
  | n + 1, i => if i = 1 then true else T.rooted n (T.parent i)
end Abs
end Go.Proofs.YtpifnlodilcgkaaGreat

set_option linter.unusedVariables false
namespace Go.Proofs.YtpifnlodilcgkaaGreat
namespace Abs
set_option maxRecDepth 10000
attribute [local irreducible] AOps AW AP ACalls thenQ inBlk noGoto

/-! ### no table -/
theorem at_nil {i : Int} {H : AHeap} {K : AVal → AHeap → Prop} (hK : K .nilp H) : ACalls Tryz.prog 50 [.nilp, .i i] H K := by
  refine acalls_body Tryz.func50 rfl rfl rfl ?_
  repeat (first|(apply w1;apply rfl;apply rfl)|(apply w3;apply rfl;apply rfl)|apply w4|apply w5|apply w6|apply w7|(apply w8;apply rfl)|apply wd|apply we)
  exact rt1 rfl rfl (.refl _) (AHeap.sub_refl _) hK
theorem get_nil {i : Int} {H : AHeap} {K : AVal → AHeap → Prop} (hK : K (.tup [.agg (encNode Node.zero), .b false]) H) : ACalls Tryz.prog 27 [.nilp, .i i] H K := by
  refine acalls_body Tryz.func27 rfl rfl rfl ?_
  repeat (first|apply w6|apply w7)
  refine s_alloc tk rfl rfl rfl (fun b hb => ?_)
  repeat (first|(apply w1;apply rfl;apply rfl)|apply w4|apply w5|apply w6|apply w7)
  refine s_call rfl rfl fk50 ?_
  refine at_nil ?_
  repeat (first|(apply w1;apply rfl;apply rfl)|apply w4|apply w5|apply w6|apply w7|(apply w8;apply rfl))
  refine s_build tk rfl rfl rfl rfl rfl rfl ?_
  skip
  refine s_storew tk rfl rfl (put_same _ _ _) rfl rfl rfl rfl ?_
  repeat (first|(apply w1;apply rfl;apply rfl)|apply w4|apply w5|apply wd|apply we)
  exact rt2c rfl rfl (.inl (put_same _ _ _)) rfl rfl rfl (.pair (wk_agg rfl) (.refl _)) (sub_new hb (sub_new hb (AHeap.sub_refl _))) hK
theorem drop_nil {i : Int} {H : AHeap} {K : AVal → AHeap → Prop} (hK : K (.b false) H) : ACalls Tryz.prog 90 [.nilp, .i i] H K := by
  refine acalls_body Tryz.func90 rfl rfl rfl ?_
  repeat (first|(apply w1;apply rfl;apply rfl)|(apply w2;apply rfl)|(apply w3;apply rfl;apply rfl)|apply w4|apply w5|apply w6|apply w7|(apply w8;apply rfl)|(apply w9;apply rfl)|apply wa|apply wd|apply we|apply wb|apply wc|apply wf|apply wg|apply wh|(apply wi;apply rfl)|apply wj|apply wk|apply wl|apply wm|apply wn)
  refine s_call rfl rfl fk50 ?_
  refine at_nil ?_
  repeat (first|(apply w1;apply rfl;apply rfl)|(apply w2;apply rfl)|(apply w3;apply rfl;apply rfl)|apply w4|apply w5|apply w6|apply w7|(apply w8;apply rfl)|(apply w9;apply rfl)|apply wa|apply wd|apply we|apply wb|apply wc|apply wf|apply wg|apply wh|(apply wi;apply rfl)|apply wj|apply wk|apply wl|apply wm|apply wn)
  exact rt1 rfl rfl (.refl _) (AHeap.sub_refl _) hK
end Abs
end Go.Proofs.YtpifnlodilcgkaaGreat
