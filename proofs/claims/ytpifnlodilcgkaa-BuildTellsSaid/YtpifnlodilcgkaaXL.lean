import Derived.Test.YtpifnlodilcgkaaXA
import Derived.Test.YtpifnlodilcgkaaV4
set_option linter.unusedVariables false
namespace Go.Proofs.Ytpifnlodilcgkaa
namespace Abs
set_option linter.unusedSimpArgs false
set_option maxRecDepth 10000
set_option maxHeartbeats 2000000
attribute [local irreducible] AOps AW AP ACalls thenQ inBlk noGoto

/-! ### what is told of a node -/
structure Stat where
  node : Int
  kind : Int
  mode : Int
  uid : Int
  gid : Int
  links : Int
  size : Int
def Stat.zero : Stat := ⟨0, 0, 0, 0, 0, 0, 0⟩
def Tab.stat (T : Tab) (i : Int) : Stat := if T.has i = true then ⟨i, (T.at i).kind, (T.at i).mode, (T.at i).uid, (T.at i).gid, T.links i, (T.at i).size⟩ else Stat.zero
def Tab.look (T : Tab) (c : Cred) (path : ByteArray) (follow : Bool) : Stat × Int :=
  if (T.resolve c path follow).2 = 0 then (if T.has (T.resolve c path follow).1.node = true then (T.stat (T.resolve c path follow).1.node, 0) else (Stat.zero, 2))
  else (Stat.zero, (T.resolve c path follow).2)
def Tab.list (T : Tab) (c : Cred) (path : ByteArray) : List ByteArray × Int :=
  if ¬ (T.look c path true).2 = 0 then ([], (T.look c path true).2) else if ¬ (T.look c path true).1.kind = 2 then ([], 20) else if T.can c (T.look c path true).1.node 4 = false then ([], 13)
  else (sortB (entNames (T.at (T.look c path true).1.node).ents), 0)
end Abs
end Go.Proofs.Ytpifnlodilcgkaa
