import Derived.Test.YtpifnlodilcgkaaXQ
import Derived.Test.YtpifnlodilcgkaaW0
set_option linter.unusedVariables false
namespace Go.Proofs.Ytpifnlodilcgkaa
namespace Abs
/-! ### what plant makes: plain part -/
def sgid (m : Int) : Prop := ¬ bitsR .and .i64 m 1024 = 0
instance (m : Int) : Decidable (sgid m) := inferInstanceAs (Decidable (¬ _))
/-- A node that is made in a directory. -/
def madeIn (c : Cred) (d n : Node) : Node := { n with uid := c.uid, gid := if sgid d.mode then d.gid else c.gid }
def Tab.dropE (T : Tab) (i : Int) : Tab × Bool := if T.has i = true then (T.put (i - 1).toNat Node.zero, true) else (T, false)
def Tab.plant (T : Tab) (c : Cred) (r : Found × Int) (mk : Node → Node) : Tab × Int × Int :=
  if ¬ r.2 = 0 then (T, 0, r.2) else if ¬ r.1.node = 0 then (T, 0, 17) else if T.can c r.1.dir 3 = false then (T, 0, 13)
  else if 8 ≤ ((T.at r.1.dir).ents.length : Int) then (T, 0, 28) else if T.used = T.room then (T, 0, 28)
  else if ¬ (T.add (madeIn c (T.at r.1.dir) (mk (T.at r.1.dir)))).2.2 = 0 then ((T.add (madeIn c (T.at r.1.dir) (mk (T.at r.1.dir)))).1, 0, (T.add (madeIn c (T.at r.1.dir) (mk (T.at r.1.dir)))).2.2)
  else if ¬ (T.at r.1.dir).withE r.1.name (T.add (madeIn c (T.at r.1.dir) (mk (T.at r.1.dir)))).2.1 = 0 then
    (((T.add (madeIn c (T.at r.1.dir) (mk (T.at r.1.dir)))).1.dropE (T.add (madeIn c (T.at r.1.dir) (mk (T.at r.1.dir)))).2.1).1, 0, (T.at r.1.dir).withE r.1.name (T.add (madeIn c (T.at r.1.dir) (mk (T.at r.1.dir)))).2.1)
  else (((T.add (madeIn c (T.at r.1.dir) (mk (T.at r.1.dir)))).1.putE r.1.dir ((T.at r.1.dir).withN r.1.name (T.add (madeIn c (T.at r.1.dir) (mk (T.at r.1.dir)))).2.1)).1, (T.add (madeIn c (T.at r.1.dir) (mk (T.at r.1.dir)))).2.1,
    ((T.add (madeIn c (T.at r.1.dir) (mk (T.at r.1.dir)))).1.putE r.1.dir ((T.at r.1.dir).withN r.1.name (T.add (madeIn c (T.at r.1.dir) (mk (T.at r.1.dir)))).2.1)).2)
end Abs
end Go.Proofs.Ytpifnlodilcgkaa

set_option linter.unusedVariables false
namespace Go.Proofs.Ytpifnlodilcgkaa
namespace Abs
set_option linter.unusedSimpArgs false
set_option maxRecDepth 10000
set_option maxHeartbeats 2000000
attribute [local irreducible] AOps AW AP ACalls thenQ inBlk noGoto

/-! ### package plant -/
end Abs
end Go.Proofs.Ytpifnlodilcgkaa
