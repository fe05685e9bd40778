import Derived.Test.YtpifnlodilcgkaaX1
import Derived.Test.YtpifnlodilcgkaaB0
import Derived.Lib.FieldsP
set_option linter.unusedVariables false
namespace Go.Proofs.Ytpifnlodilcgkaa
namespace Abs
set_option linter.unusedSimpArgs false
set_option maxRecDepth 10000
set_option maxHeartbeats 2000000
attribute [local irreducible] AOps AW AP ACalls thenQ inBlk noGoto

/-! ### package paths: names of a path -/
def ofL (l : List UInt8) : ByteArray := ⟨l.toArray⟩
def byL (s : ByteArray) : List UInt8 := s.data.toList
def splitL : List UInt8 → List UInt8 → List (List UInt8)
  | cur, [] => if cur = [] then [] else [cur]
  | cur, c :: r => if c = 47 then (if cur = [] then splitL [] r else cur :: splitL [] r) else splitL (cur ++ [c]) r
def namesOf (s : ByteArray) : List ByteArray := (splitL [] (byL s)).map ofL
def absOf (s : ByteArray) : Bool := decide ((byL s)[0]? = some 47)
def endOf (s : ByteArray) : Bool := decide ((byL s)[s.size - 1]? = some 47)
def splitOf (s : ByteArray) : List ByteArray := if (!(namesOf s).isEmpty && endOf s) = true then namesOf s ++ [⟨#[46]⟩] else namesOf s
/-! the library's FieldsFunc, at the slash -/
end Abs
end Go.Proofs.Ytpifnlodilcgkaa

set_option linter.unusedVariables false
namespace Go.Proofs.Ytpifnlodilcgkaa
namespace Abs
open Go.RowKit

/-! ### package paths: Split, Join -/
section
set_option linter.unusedSimpArgs false
set_option maxRecDepth 10000
set_option maxHeartbeats 2000000
attribute [local irreducible] AOps AW AP ACalls thenQ inBlk noGoto
end
section
set_option linter.unusedSimpArgs false
set_option maxRecDepth 10000
set_option maxHeartbeats 2000000
attribute [local irreducible] AOps AW AP ACalls thenQ inBlk noGoto
end
end Abs
end Go.Proofs.Ytpifnlodilcgkaa

set_option linter.unusedVariables false
namespace Go.Proofs.Ytpifnlodilcgkaa
namespace Abs
set_option linter.unusedSimpArgs false
set_option maxRecDepth 10000
set_option maxHeartbeats 2000000
attribute [local irreducible] AOps AW AP ACalls thenQ inBlk noGoto
attribute [local irreducible] absOf endOf
def dotS : ByteArray := ⟨#[46]⟩
end Abs
end Go.Proofs.Ytpifnlodilcgkaa

set_option linter.unusedVariables false
namespace Go.Proofs.Ytpifnlodilcgkaa
namespace Abs
set_option linter.unusedSimpArgs false
set_option maxRecDepth 10000
set_option maxHeartbeats 2000000
attribute [local irreducible] AOps AW AP ACalls thenQ inBlk noGoto
attribute [local irreducible] absOf endOf

/-! ### Join; the document's chapter 07: Names, Abs, Split -/
end Abs
end Go.Proofs.Ytpifnlodilcgkaa
