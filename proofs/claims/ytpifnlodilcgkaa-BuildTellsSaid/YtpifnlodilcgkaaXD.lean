import Derived.Test.YtpifnlodilcgkaaXA
import Derived.Test.YtpifnlodilcgkaaL1
import Derived.Test.YtpifnlodilcgkaaQ4
set_option linter.unusedVariables false
namespace Go.Proofs.Ytpifnlodilcgkaa
namespace Abs
set_option linter.unusedSimpArgs false
set_option maxRecDepth 10000
set_option maxHeartbeats 2000000
attribute [local irreducible] AOps AW AP ACalls thenQ inBlk noGoto
attribute [local irreducible] absOf endOf

/-! ### the document's chapter 11 -/
structure Tells (T : Tab) (L : List Node) : Prop where
  rel : Rel T L
  good : T.good
theorem Tells.get {T : Tab} {L : List Node} (h : Tells T L) (i : Int) : rget L i = T.at i := l_get h.good.wf h.rel i
theorem Tells.len {T : Tab} {L : List Node} (h : Tells T L) : L.length ≤ 1073741824 := Nat.le_trans h.rel.most (by decide)
end Abs
end Go.Proofs.Ytpifnlodilcgkaa

set_option linter.unusedVariables false
namespace Go.Proofs.Ytpifnlodilcgkaa
namespace Abs
set_option linter.unusedSimpArgs false
set_option maxRecDepth 10000
set_option maxHeartbeats 2000000
attribute [local irreducible] AOps AW AP ACalls thenQ inBlk noGoto
attribute [local irreducible] absOf endOf

/-! ### the document's chapter 11: link, take -/
end Abs
end Go.Proofs.Ytpifnlodilcgkaa

set_option linter.unusedVariables false
namespace Go.Proofs.Ytpifnlodilcgkaa
namespace Abs
set_option linter.unusedSimpArgs false
set_option maxRecDepth 10000
set_option maxHeartbeats 2000000
attribute [local irreducible] AOps AW AP ACalls thenQ inBlk noGoto
attribute [local irreducible] absOf endOf

/-! ### the document's chapter 11: take, Resolve -/
end Abs
end Go.Proofs.Ytpifnlodilcgkaa

set_option linter.unusedVariables false
namespace Go.Proofs.Ytpifnlodilcgkaa
namespace Abs
set_option linter.unusedSimpArgs false
set_option maxRecDepth 10000
set_option maxHeartbeats 2000000
attribute [local irreducible] AOps AW AP ACalls thenQ inBlk noGoto
attribute [local irreducible] absOf endOf

/-! ### the document's chapter 11: Resolve -/
end Abs
end Go.Proofs.Ytpifnlodilcgkaa
