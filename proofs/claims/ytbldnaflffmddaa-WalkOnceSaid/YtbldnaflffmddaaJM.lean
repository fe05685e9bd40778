import Derived.Test.YtbldnaflffmddaaJL
set_option linter.unusedVariables false
namespace Go.Proofs.Ytbldnaflffmddaa
namespace Abs
set_option maxRecDepth 10000

/-! ### WalkDown: plain law -/
theorem WkAt.put2 {H : AHeap} {bw bd bh bm : Nat} {w : Wkr} (h : WkAt H bw bd bh bm w) {b : Nat} (h1 : b ≠ bw) (h2 : b ≠ bd) (h3 : b ≠ bh) (o : HObj) : WkAt (H.put b o) bw bd bh bm w :=
  ⟨by rw [put_ne (Ne.symm h1)]; exact h.cells, rd_put (Ne.symm h2) h.deep, rd_put (Ne.symm h3) h.how, h.nd, h.nh⟩
end Abs
end Go.Proofs.Ytbldnaflffmddaa

set_option linter.unusedVariables false
namespace Go.Proofs.Ytbldnaflffmddaa
namespace Abs
set_option linter.unusedSimpArgs false
set_option maxRecDepth 10000
set_option maxHeartbeats 2000000
attribute [local irreducible] AOps AW AP ACalls thenQ inBlk noGoto

/-! ### WalkDown -/
end Abs
end Go.Proofs.Ytbldnaflffmddaa
