import Derived.Test.YtkopeigfjjbajaaGreatXA
import Derived.Test.YtkopeigfjjbajaaGreatZ2
import Derived.Test.YtkopeigfjjbajaaGreatXD
set_option linter.unusedVariables false
namespace Go.Proofs.YtkopeigfjjbajaaGreat
namespace Abs
set_option maxRecDepth 10000
attribute [local irreducible] AOps AW ACalls thenQ inBlk noGoto

/-! ### walks through trees: the plain law -/
/-! names of a path are not empty -/
/-! ### what is found may be searched for -/
def Tab.up (T : Tab) : Nat → Int → Int
  | 0, i => i
  | n + 1, i => T.up n (T.parent i)
def Anc (T : Tab) (c : Cred) (i : Int) : Prop := ∀ n : Nat, T.up (n + 1) i ≠ 0 → T.can c (T.up (n + 1) i) 1 = true
structure Srch (T : Tab) (c : Cred) (s : RSt) : Prop where
  has : T.has s.pos = true
  anc : (T.at s.pos).kind = 2 → Anc T c s.pos
  emp : s.left = [] → (T.at s.pos).kind = 2
  ne : ∀ x ∈ s.left, x ≠ ⟨#[]⟩
theorem fits_small {T : Tab} {path : ByteArray} (h : T.fitsE path = 0) : path.size ≤ 64 ∧ path ≠ ⟨#[]⟩ := by
  unfold Tab.fitsE at h
  split at h
  · cases h
  · rename_i h1
    split at h
    · cases h
    · exact ⟨by omega, h1⟩
theorem start_m {T : Tab} {path : ByteArray} (h : T.fitsE path = 0) (p : Int) : RSt.m ⟨p, 0, splitOf path⟩ < 2000 := by
  have h1 := splitOf_len path
  have h2 := (fits_small h).1
  show (8 - 0) * 110 + (splitOf path).length < 2000
  omega
end Abs
end Go.Proofs.YtkopeigfjjbajaaGreat
