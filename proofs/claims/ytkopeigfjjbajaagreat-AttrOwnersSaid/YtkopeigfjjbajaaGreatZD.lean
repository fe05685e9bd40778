import Derived.Test.YtkopeigfjjbajaaGreatZC
set_option linter.unusedVariables false
namespace Go.Proofs.YtkopeigfjjbajaaGreat
namespace Abs
set_option maxRecDepth 10000
attribute [local irreducible] AOps AW ACalls thenQ inBlk noGoto

/-! ### one node is changed, and nothing but what is asked for: the plain law -/
theorem sameTo_self' (T : Tab) : ∀ k : Nat, T.sameTo T k = true
  | 0 => rfl
  | k + 1 => by rw [Tab.sameTo, sameTo_self' T k, same_refl]; rfl
def noMode (n : Node) : Node := { n with mode := 0 }
def noOwn (n a : Node) : Node := { n with mode := 0, uid := a.uid, gid := a.gid }
structure Only1 (T : Tab) (S : Stat × Int) (A : Int × Tab) : Prop where
  err : ¬ A.1 = 0 → A.2 = T
  none : ¬ S.2 = 0 → ¬ A.1 = 0
  others : ∀ i, ¬ i = S.1.node → A.2.at i = T.at i
  one : ∀ i, noMode (A.2.at i) = noMode (T.at i)
structure Only2 (T : Tab) (S : Stat × Int) (uid gid : Int) (B : Int × Tab) : Prop where
  err : ¬ B.1 = 0 → B.2 = T
  none : ¬ S.2 = 0 → ¬ B.1 = 0
  others : ∀ i, ¬ i = S.1.node → B.2.at i = T.at i
  one : ∀ i, noOwn (B.2.at i) (T.at i) = noMode (T.at i)
  own : B.1 = 0 → ∀ i, i = S.1.node → (B.2.at i).uid = (if 0 ≤ uid then uid else (T.at i).uid) ∧ (B.2.at i).gid = (if 0 ≤ gid then gid else (T.at i).gid)
end Abs
end Go.Proofs.YtkopeigfjjbajaaGreat
