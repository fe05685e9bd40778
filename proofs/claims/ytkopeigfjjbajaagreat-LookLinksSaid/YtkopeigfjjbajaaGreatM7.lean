import Derived.Test.YtkopeigfjjbajaaGreatM2
import Derived.Test.YtkopeigfjjbajaaGreatM3
set_option linter.unusedVariables false
namespace Go.Proofs.YtkopeigfjjbajaaGreat
namespace Abs
set_option linter.unusedSimpArgs false
set_option maxRecDepth 10000
set_option maxHeartbeats 2000000
attribute [local irreducible] AOps AW AP ACalls thenQ inBlk noGoto

/-! ### NodeStays -/
end Abs
end Go.Proofs.YtkopeigfjjbajaaGreat

set_option linter.unusedVariables false
namespace Go.Proofs.YtkopeigfjjbajaaGreat
namespace Abs
set_option linter.unusedSimpArgs false
set_option maxRecDepth 10000
set_option maxHeartbeats 2000000
attribute [local irreducible] AOps AW AP ACalls thenQ inBlk noGoto

/-! ### NodeFinds -/
theorem names_sorted {l : List Ent} (h : rising l = true) : sortB (entNames l) = entNames l := by
  refine sort_unique (sortB_perm _) (sortB_sorted _) ?_
  unfold entNames
  rw [List.pairwise_map]
  exact ((rising_iff _).1 h).2.1.imp (fun h => leB_of_lt h)
end Abs
end Go.Proofs.YtkopeigfjjbajaaGreat
