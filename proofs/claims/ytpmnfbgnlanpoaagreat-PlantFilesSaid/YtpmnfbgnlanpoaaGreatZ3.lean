import Derived.Test.YtpmnfbgnlanpoaaGreatXA
import Derived.Test.YtpmnfbgnlanpoaaGreatZ2
import Derived.Test.YtpmnfbgnlanpoaaGreatXD
set_option linter.unusedVariables false
namespace Go.Proofs.YtpmnfbgnlanpoaaGreat
namespace Abs
set_option maxRecDepth 10000
attribute [local irreducible] AOps AW ACalls thenQ inBlk noGoto

/-! ### walks through trees: the plain law -/
/-! names of a path are not empty -/
/-! ### what is found may be searched for -/
def Tab.up (T : Tab) : Nat → Int → Int
  | 0, i => i
  | n + 1, i => T.up n (T.parent i)
def Anc (T : Tab) (c : Cred) (i : Int) : Prop := ∀ n : Nat, T.up (n + 1) i ≠ 0 → T.can c (T.up (n + 1) i) 1 = true
structure Srch (T : Tab) (c : Cred) (s : RSt) : Prop where
  has : T.has s.pos = true
  anc : (T.at s.pos).kind = 2 → Anc T c s.pos
  emp : s.left = [] → (T.at s.pos).kind = 2
  ne : ∀ x ∈ s.left, x ≠ ⟨#[]⟩
end Abs
end Go.Proofs.YtpmnfbgnlanpoaaGreat
