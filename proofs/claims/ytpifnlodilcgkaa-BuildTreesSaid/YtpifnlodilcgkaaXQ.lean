import Derived.Test.YtpifnlodilcgkaaXP
import Derived.Test.YtpifnlodilcgkaaXM
set_option linter.unusedVariables false
namespace Go.Proofs.Ytpifnlodilcgkaa
namespace Abs
end Abs
end Go.Proofs.Ytpifnlodilcgkaa

set_option linter.unusedVariables false
namespace Go.Proofs.Ytpifnlodilcgkaa
namespace Abs
set_option linter.unusedSimpArgs false
set_option maxRecDepth 10000
set_option maxHeartbeats 2000000
attribute [local irreducible] AOps AW AP ACalls thenQ inBlk noGoto

/-! ### the document's bits, and who may change what -/
/-! ### no table -/
/-! ### the document's changes -/
theorem tells_put {T : Tab} {L : List Node} (ht : Tells T L) {i : Int} (hi : T.has i = true) {n : Node} (hn : n = Node.zero ∨ nodeOk n = true) : Tells (T.put (i - 1).toNat n) (L.set (i - 1).toNat n) := by
  have hr := has_rng hi
  exact ⟨rel_put ht.good.wf ht.rel (k := (i - 1).toNat) (by omega) hn, put_good ht.good hn _⟩
end Abs
end Go.Proofs.Ytpifnlodilcgkaa
