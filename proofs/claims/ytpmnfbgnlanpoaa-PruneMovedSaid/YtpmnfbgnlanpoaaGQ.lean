import Derived.Test.YtpmnfbgnlanpoaaGI
import Derived.Test.YtpmnfbgnlanpoaaGL
import Derived.Test.YtpmnfbgnlanpoaaY1
set_option linter.unusedVariables false
namespace Go.Proofs.Ytpmnfbgnlanpoaa
namespace Abs
def noEnts (n : Node) : Node := { n with ents := [] }
structure StaysT (T : Tab) (R : Tab × Int) : Prop where
  err : ¬ R.2 = 0 → R.1 = T
  tree : R.2 = 0 → R.1.tree
  used : R.2 = 0 → R.1.used ≤ T.used ∧ T.used - 1 ≤ R.1.used
  same : R.2 = 0 → ∀ i, R.1.has i = true → T.has i = true ∧ noEnts (R.1.at i) = noEnts (T.at i)
theorem rename_to {T : Tab} (hg : T.good) (ht : T.tree) {c : Cred} {fr tg : ByteArray} {p q : Found × Int} (hp : p = T.resolve c fr false) (hq : q = T.resolve c tg false) (h : T.renameE c p q = 0) (hd : ¬ q.1.node = p.1.node) : T.renameF c p q [] = (T.movedT p.1 q.1, 0) ∧ MovedTo T (T.movedT p.1 q.1) p.1 q.1 := by
  have hm := moved_facts hg ht (move_facts hg ht hp hq h hd)
  rw [renameF_move hg ht hp hq [] h hd, hm.2]
  exact ⟨rfl, hm.1⟩
theorem sameTo_selfQ (T : Tab) : ∀ k : Nat, T.sameTo T k = true
  | 0 => rfl
  | k + 1 => by simp only [Tab.sameTo, sameTo_selfQ T k, same_refl, Bool.and_self]
theorem same_selfQ (T : Tab) : T.same T = true := sameTo_selfQ T 24
end Abs
end Go.Proofs.Ytpmnfbgnlanpoaa

set_option linter.unusedVariables false
namespace Go.Proofs.Ytpmnfbgnlanpoaa
namespace Abs
set_option linter.unusedSimpArgs false
set_option maxRecDepth 10000
set_option maxHeartbeats 2000000
attribute [local irreducible] AOps AW AP ACalls thenQ inBlk noGoto

/-! ### PruneTree -/
end Abs
end Go.Proofs.Ytpmnfbgnlanpoaa
