import Derived.Test.YtbldnaflffmddaaP0
set_option linter.unusedVariables false
namespace Go.Proofs.Ytbldnaflffmddaa
namespace Abs
set_option maxRecDepth 10000
attribute [local irreducible] AOps AW AP ACalls thenQ inBlk noGoto

/-! ### package paths: names and targets -/
def nameOk (s : ByteArray) : Bool := !decide (s = ⟨#[]⟩) && decide ((s.size : Int) ≤ 12) && !decide (s = ⟨#[46]⟩) && !decide (s = ⟨#[46, 46]⟩) && !(hasB s 47 || hasB s 0)
def fitsOk (s : ByteArray) : Bool := !decide (s = ⟨#[]⟩) && decide ((s.size : Int) ≤ 64) && !hasB s 0
def idOk (n : Int) : Bool := decide (0 ≤ n) && decide (n ≤ 65535)

/-! ### entries -/
def risingFrom : Option ByteArray → List Ent → Bool
  | _, [] => true
  | prev, e :: l => nameOk e.name && decide (1 ≤ e.node) && (match prev with | none => true | some p => Op.bytesLess p.toList e.name.toList) && risingFrom (some e.name) l
def rising (l : List Ent) : Bool := risingFrom none l && decide ((l.length : Int) ≤ 8)
end Abs
end Go.Proofs.Ytbldnaflffmddaa

set_option linter.unusedVariables false
namespace Go.Proofs.Ytbldnaflffmddaa
namespace Abs
set_option maxRecDepth 10000
attribute [local irreducible] AOps AW AP ACalls thenQ inBlk noGoto

/-! ### package node: Right, Same -/
def nodeOk (n : Node) : Bool :=
  decide (0 ≤ n.mode) && decide (n.mode ≤ 4095) && idOk n.uid && idOk n.gid &&
    (if n.kind = 1 then decide (n.ents.length = 0) && decide (n.target = ⟨#[]⟩) && decide (n.data.size ≤ 48)
    else if n.kind = 2 then decide (n.data.size = 0) && decide (n.target = ⟨#[]⟩) && rising n.ents
    else if n.kind = 3 then decide (n.data.size + n.ents.length = 0) && decide (n.mode = 511) && fitsOk n.target
    else false)
theorem encBytes_len (s : ByteArray) : (encBytes s).length = s.size := by simp [encBytes]
end Abs
end Go.Proofs.Ytbldnaflffmddaa
