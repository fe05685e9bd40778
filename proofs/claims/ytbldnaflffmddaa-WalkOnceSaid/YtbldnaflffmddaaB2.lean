import Derived.Test.YtbldnaflffmddaaB0
import Derived.Test.YtbldnaflffmddaaX7
import Derived.Test.YtbldnaflffmddaaX1
set_option linter.unusedVariables false
namespace Go.Proofs.Ytbldnaflffmddaa
namespace Abs

/-! ### what is told of nodes, and who asks, as it is handed in -/
structure Cred.wf (c : Cred) : Prop where
  uid : in64 c.uid
  gid : in64 c.gid
  groups : c.groups.length ≤ maxLen
end Abs
end Go.Proofs.Ytbldnaflffmddaa
