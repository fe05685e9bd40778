import Derived.Test.YtpifnlodilcgkaaX7
import Derived.Test.YtpifnlodilcgkaaX1
import Derived.Test.YtpifnlodilcgkaaX3
import Derived.Test.YtpifnlodilcgkaaT1
set_option linter.unusedVariables false
namespace Go.Proofs.Ytpifnlodilcgkaa
namespace Abs
set_option linter.unusedSimpArgs false
set_option maxRecDepth 10000
set_option maxHeartbeats 2000000
attribute [local irreducible] AOps AW AP ACalls thenQ inBlk noGoto
attribute [local irreducible] absOf endOf

/-! ### package resolve -/
structure Found where
  dir : Int
  name : ByteArray
  node : Int
def Found.zero : Found := ⟨0, ⟨#[]⟩, 0⟩
def Tab.can (T : Tab) (c : Cred) (i want : Int) : Bool := T.has i && c.can (T.at i).uid (T.at i).gid (T.at i).mode want
def Tab.fitsE (T : Tab) (path : ByteArray) : Int := if path = ⟨#[]⟩ then 2 else if 64 < (path.size : Int) then 36 else if hasB path 0 = true then 22 else if T.has 1 = true then 0 else 2
theorem tget_c {t : Nat} {T : Tab} (hw : T.wf) {i : Int} {H : AHeap} (hT : Rd H t (encTab T)) {K : AVal → AHeap → Prop}
    (hK : K (.tup [.agg (encNode (T.at i)), .b (T.has i)]) H) : ACalls Try.prog 17 [.ptr t 0, .i i] H K := get_c hw hT hK
structure RSt where
  pos : Int
  links : Nat
  left : List ByteArray
def dotdotS : ByteArray := ⟨#[46, 46]⟩
/-- One name is taken. -/
def Tab.take (T : Tab) (c : Cred) (follow : Bool) (s : RSt) (name : ByteArray) (rest : List ByteArray) : Sum RSt (Found × Int) :=
  if ¬ (T.at s.pos).kind = 2 then .inr (Found.zero, 20)
  else if T.can c s.pos 1 = false then .inr (Found.zero, 13)
  else if name = dotS then .inl ⟨s.pos, s.links, rest⟩
  else if name = dotdotS then .inl ⟨if T.parent s.pos = 0 then s.pos else T.parent s.pos, s.links, rest⟩
  else if 12 < (name.size : Int) then .inr (Found.zero, 36)
  else if (T.at s.pos).find name = 0 ∧ 0 < rest.length then .inr (Found.zero, 2)
  else if (T.at ((T.at s.pos).find name)).kind = 3 ∧ (follow = true ∨ 0 < rest.length) then
    (if s.links = 8 then .inr (Found.zero, 40)
     else .inl ⟨if absOf (T.at ((T.at s.pos).find name)).target = true then 1 else s.pos, s.links + 1, splitOf (T.at ((T.at s.pos).find name)).target ++ rest⟩)
  else if rest.length = 0 then .inr (⟨s.pos, name, (T.at s.pos).find name⟩, 0)
  else .inl ⟨(T.at s.pos).find name, s.links, rest⟩
def Tab.walk (T : Tab) (c : Cred) (follow : Bool) : Nat → RSt → Found × Int
  | 0, _ => (Found.zero, 0)
  | f + 1, s => match s.left with
    | [] => (⟨s.pos, ⟨#[]⟩, s.pos⟩, 0)
    | name :: rest => match T.take c follow s name rest with
      | .inl s' => T.walk c follow f s'
      | .inr r => r
def Tab.resolve (T : Tab) (c : Cred) (path : ByteArray) (follow : Bool) : Found × Int :=
  if T.fitsE path = 0 then T.walk c follow 2000 ⟨1, 0, splitOf path⟩ else (Found.zero, T.fitsE path)
def RSt.m (s : RSt) : Nat := (8 - s.links) * 110 + s.left.length
structure RSt.ok (s : RSt) : Prop where
  links : s.links ≤ 8
end Abs
end Go.Proofs.Ytpifnlodilcgkaa

set_option linter.unusedVariables false
namespace Go.Proofs.Ytpifnlodilcgkaa
namespace Abs
set_option linter.unusedSimpArgs false
set_option maxRecDepth 10000
set_option maxHeartbeats 2000000
attribute [local irreducible] AOps AW AP ACalls thenQ inBlk noGoto
attribute [local irreducible] absOf endOf

/-! ### package resolve: Resolve -/
structure RH (H Y : AHeap) (t b5 b8 b11 b12 b14 : Nat) (T : Tab) (c : Cred) (s : RSt) : Prop where
  cT : Rd Y t (encTab T)
  c5 : Rd Y b5 (encCred c)
  c8 : Y b8 = some (.cells [.i 0, .s ⟨#[]⟩, .i 0])
  c11 : Y b11 = some (.cells [.i s.pos])
  c12 : Y b12 = some (.cells [.i s.links])
  c14 : Y b14 = some (.cells [.sl (encStrs s.left) .no])
  sub : H.sub Y
end Abs
end Go.Proofs.Ytpifnlodilcgkaa

set_option linter.unusedVariables false
namespace Go.Proofs.Ytpifnlodilcgkaa
namespace Abs
set_option linter.unusedSimpArgs false
set_option maxRecDepth 10000
set_option maxHeartbeats 2000000
attribute [local irreducible] AOps AW AP ACalls thenQ inBlk noGoto
attribute [local irreducible] absOf endOf

end Abs
end Go.Proofs.Ytpifnlodilcgkaa
