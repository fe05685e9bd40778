import Derived.Test.YtbldnaflffmddaaA10
import Derived.Test.YtbldnaflffmddaaV1
set_option linter.unusedVariables false
namespace Go.Proofs.Ytbldnaflffmddaa
namespace Abs
set_option linter.unusedSimpArgs false
set_option maxRecDepth 10000
set_option maxHeartbeats 2000000
attribute [local irreducible] AOps AW AP ACalls thenQ inBlk noGoto

/-! ### packages cred, modes: who asks, and what they may -/
structure Cred where
  uid : Int
  gid : Int
  groups : List Int
def Cred.root (c : Cred) : Bool := decide (c.uid = 0)
def Cred.small (c : Cred) : Prop := c.groups.length ≤ 1073741824
def Cred.member (c : Cred) (gid : Int) : Bool := decide (gid = c.gid) || c.groups.any fun y => decide (gid = y)
def Cred.cls (c : Cred) (uid gid : Int) : Int := if uid = c.uid then 0 else if c.member gid = true then 1 else 2
/-- The three bits of one of the classes. -/
def clsBits (mode k : Int) : Int := if k = 0 then mode / 64 % 8 else if k = 1 then mode / 8 % 8 else if k = 2 then mode % 8 else 0
end Abs
end Go.Proofs.Ytbldnaflffmddaa

set_option linter.unusedVariables false
namespace Go.Proofs.Ytbldnaflffmddaa
namespace Abs
set_option linter.unusedSimpArgs false
set_option maxRecDepth 10000
set_option maxHeartbeats 2000000
attribute [local irreducible] AOps AW AP ACalls thenQ inBlk noGoto

/-! ### cred.Can, and the document's -/
def Cred.can (c : Cred) (uid gid mode want : Int) : Bool := c.root || decide (bitsR .and .i64 (clsBits mode (c.cls uid gid)) (want % 8) = want % 8)
/-! the document's chapters 01, 04 -/
end Abs
end Go.Proofs.Ytbldnaflffmddaa
