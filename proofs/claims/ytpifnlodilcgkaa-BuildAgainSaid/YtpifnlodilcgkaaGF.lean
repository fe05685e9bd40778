import Derived.Test.YtpifnlodilcgkaaGA
set_option linter.unusedVariables false
namespace Go.Proofs.Ytpifnlodilcgkaa
namespace Abs
/-! ### what prune does: plain part -/
def Cred.sticky (c : Cred) (mode dirUid uid : Int) : Bool := c.root || (decide (bitsR .and .i64 mode 512 = 0) || (decide (dirUid = c.uid) || decide (uid = c.uid)))
structure Place where
  f : Found
  d : Node
  n : Node
def Tab.mayTake (T : Tab) (c : Cred) (f : Found) : Bool := c.sticky (T.at f.dir).mode (T.at f.dir).uid (T.at f.node).uid
def Tab.cut (T : Tab) (dir : Int) (name : ByteArray) : Tab := if (T.at dir).withoutE name = 0 then (T.putE dir ((T.at dir).withoutN name)).1 else T
def Tab.below (T : Tab) : Nat → Int → Int → Bool
  | 0, i, dir => decide (i = dir)
  | n + 1, i, dir => if i = dir then true else if i = 0 then false else T.below n (T.parent i) dir
def Tab.overE (T : Tab) (c : Cred) (p q : Found) : Int :=
  if T.mayTake c q = false then 1 else if (T.at p.node).kind = 2 ∧ ¬ (T.at q.node).kind = 2 then 20 else if (T.at q.node).kind = 2 ∧ ¬ (T.at p.node).kind = 2 then 21 else if 0 < ((T.at q.node).ents.length : Int) then 39 else 0
/-- An entry is put into a directory. -/
def Tab.into (T : Tab) (dir : Int) (name : ByteArray) (i : Int) : Tab × Int := if (T.at dir).withE name i = 0 then T.putE dir ((T.at dir).withN name i) else (T, (T.at dir).withE name i)
end Abs
end Go.Proofs.Ytpifnlodilcgkaa

set_option linter.unusedVariables false
namespace Go.Proofs.Ytpifnlodilcgkaa
namespace Abs
set_option linter.unusedSimpArgs false
set_option maxRecDepth 10000
set_option maxHeartbeats 2000000
attribute [local irreducible] AOps AW AP ACalls thenQ inBlk noGoto

/-! ### package prune -/
end Abs
end Go.Proofs.Ytpifnlodilcgkaa
