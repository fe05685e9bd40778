import Derived.Test.YtbldnaflffmddaaV1
import Derived.Test.YtbldnaflffmddaaT1
import Derived.Test.YtbldnaflffmddaaL1
import Derived.Test.YtbldnaflffmddaaX3
import Derived.Test.YtbldnaflffmddaaM2
set_option linter.unusedVariables false
namespace Go.Proofs.Ytbldnaflffmddaa
namespace Abs
set_option linter.unusedSimpArgs false
set_option maxRecDepth 10000
set_option maxHeartbeats 2000000
attribute [local irreducible] AOps AW AP ACalls thenQ inBlk noGoto

/-! ### package build: what is told -/
structure Raw where
  kind : Int
  mode : Int
  uid : Int
  gid : Int
  parent : Int
  name : ByteArray
  data : ByteArray
  target : ByteArray
  node : Int
def Raw.made (r : Raw) : Node := ⟨r.kind, r.mode, r.uid, r.gid, r.data, [], r.target⟩
def Raw.few (r : Raw) : Prop := r.name.size ≤ 40 ∧ r.data.size ≤ 100 ∧ r.target.size ≤ 100
theorem Raw.few.made {r : Raw} (h : r.few) : r.made.few := ⟨Nat.zero_le _, h.2.1, h.2.2, fun e he => by cases he⟩
/-- The first number that is free, less 1. -/
def Tab.free (T : Tab) : Option Nat := (List.range T.room.toNat).find? fun k => !T.has ((k : Int) + 1)
def Tab.add (T : Tab) (n : Node) : Tab × Int × Int := if nodeOk n = true then (match T.free with | some k => (T.put k n, (k : Int) + 1, 0) | none => (T, 0, 28)) else (T, 0, 22)
def Tab.putE (T : Tab) (i : Int) (n : Node) : Tab × Int := if T.has i = true then (if nodeOk n = true then (T.put (i - 1).toNat n, 0) else (T, 22)) else (T, 2)
def Raw.told (r : Raw) (T : Tab) : Tab × Int × Int :=
  if ¬ r.kind = 4 then T.add r.made else if T.has r.node = true then (if (T.get r.node).kind = 2 then (T, 0, 1) else (T, r.node, 0)) else (T, 0, 2)
end Abs
end Go.Proofs.Ytbldnaflffmddaa

set_option linter.unusedVariables false
namespace Go.Proofs.Ytbldnaflffmddaa
namespace Abs
set_option linter.unusedSimpArgs false
set_option maxRecDepth 10000
set_option maxHeartbeats 2000000
attribute [local irreducible] AOps AW AP ACalls thenQ inBlk noGoto

/-! ### tables of nodes that may be -/
def Tab.clean0 (T : Tab) : Prop := ∀ n ∈ T.nodes, n = Node.zero ∨ nodeOk n = true
structure Tab.good (T : Tab) : Prop where
  wf : T.wf
  clean : T.clean0
/-- The node of a number; none: one of kind 0. -/
def Tab.at (T : Tab) (i : Int) : Node := if T.has i then T.get i else Node.zero
def Raw.one (r : Raw) (T : Tab) : Tab × Int :=
  if T.has r.parent = true then
    (if ¬ (r.told T).2.2 = 0 then ((r.told T).1, (r.told T).2.2)
     else if ¬ (((r.told T).1.at r.parent).withE r.name (r.told T).2.1) = 0 then ((r.told T).1, ((r.told T).1.at r.parent).withE r.name (r.told T).2.1)
     else (r.told T).1.putE r.parent (((r.told T).1.at r.parent).withN r.name (r.told T).2.1))
  else (T, 2)
def buildFrom (T : Tab) (i : Int) : List Raw → Option Tab × Int × Int
  | [] => (some T, 0, 0)
  | r :: l => if (r.one T).2 = 0 then buildFrom (r.one T).1 (i + 1) l else (none, i + 1, (r.one T).2)
def build (room : Int) : List Raw → Option Tab × Int × Int
  | [] => (none, 0, 22)
  | r :: l => if ¬ r.kind = 2 ∨ ¬ r.parent = 0 ∨ ¬ r.name = ⟨#[]⟩ then (none, 0, 22)
    else if ¬ ((Tab.new room).add r.made).2.2 = 0 then (none, 0, ((Tab.new room).add r.made).2.2) else buildFrom ((Tab.new room).add r.made).1 0 l
end Abs
end Go.Proofs.Ytbldnaflffmddaa

set_option linter.unusedVariables false
namespace Go.Proofs.Ytbldnaflffmddaa
namespace Abs
set_option linter.unusedSimpArgs false
set_option maxRecDepth 10000
set_option maxHeartbeats 2000000
attribute [local irreducible] AOps AW AP ACalls thenQ inBlk noGoto

/-! ### package build: Build -/
end Abs
end Go.Proofs.Ytbldnaflffmddaa
