import Derived.Test.YtpifnlodilcgkaaM2
import Derived.Test.YtpifnlodilcgkaaM1
set_option linter.unusedVariables false
namespace Go.Proofs.Ytpifnlodilcgkaa
namespace Abs
set_option linter.unusedSimpArgs false
set_option maxRecDepth 10000
set_option maxHeartbeats 2000000
attribute [local irreducible] AOps AW AP ACalls thenQ inBlk noGoto

/-! ### NodeStays -/
end Abs
end Go.Proofs.Ytpifnlodilcgkaa

set_option linter.unusedVariables false
namespace Go.Proofs.Ytpifnlodilcgkaa
namespace Abs
set_option linter.unusedSimpArgs false
set_option maxRecDepth 10000
set_option maxHeartbeats 2000000
attribute [local irreducible] AOps AW AP ACalls thenQ inBlk noGoto

/-! ### NodeFinds -/
theorem names_sorted {l : List Ent} (h : rising l = true) : sortB (entNames l) = entNames l := by
  refine sort_unique (sortB_perm _) (sortB_sorted _) ?_
  unfold entNames
  rw [List.pairwise_map]
  exact ((rising_iff _).1 h).2.1.imp (fun h => leB_of_lt h)
theorem find_at {n : Node} (hr : rising n.ents = true) {k : Nat} (hk : k < n.ents.length) : n.find n.ents[k].name = n.ents[k].node := by
  have hp : n.place n.ents[k].name = some k := find_uniq hk rfl ((rising_iff _).1 hr).2.1
  unfold Node.find
  rw [hp]
  simp only [List.getD_eq_getElem?_getD, List.getElem?_eq_getElem hk, Option.getD_some]
end Abs
end Go.Proofs.Ytpifnlodilcgkaa
