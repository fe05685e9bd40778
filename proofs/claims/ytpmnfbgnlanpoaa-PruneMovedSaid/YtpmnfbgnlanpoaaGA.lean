import Derived.Test.YtpmnfbgnlanpoaaXQ
import Derived.Test.YtpmnfbgnlanpoaaW0
set_option linter.unusedVariables false
namespace Go.Proofs.Ytpmnfbgnlanpoaa
namespace Abs
/-! ### what plant makes: plain part -/
theorem take_name {T : Tab} {c : Cred} {fo : Bool} {s : RSt} {name : ByteArray} {rest : List ByteArray} {r : Found × Int} (h : T.take c fo s name rest = .inr r) : r.1.name.size ≤ 12 := by
  unfold Tab.take at h
  split at h
  · cases h; exact Nat.zero_le _
  split at h
  · cases h; exact Nat.zero_le _
  split at h
  · cases h
  split at h
  · cases h
  split at h
  · cases h; exact Nat.zero_le _
  split at h
  · cases h; exact Nat.zero_le _
  split at h
  · split at h
    · cases h; exact Nat.zero_le _
    · cases h
  split at h
  · cases h; show name.size ≤ 12; omega
  · cases h
theorem walk_name {T : Tab} {c : Cred} {fo : Bool} : ∀ (f : Nat) (s : RSt), (T.walk c fo f s).1.name.size ≤ 12
  | 0, s => Nat.zero_le _
  | f + 1, s => by
    cases hq : s.left with
    | nil => rw [walk_end hq]; exact Nat.zero_le _
    | cons x l =>
      rw [walk_step hq]
      cases ht : T.take c fo s x l with
      | inr r => exact take_name ht
      | inl s' => exact walk_name f s'
theorem resolve_name (T : Tab) (c : Cred) (path : ByteArray) (fo : Bool) : (T.resolve c path fo).1.name.size ≤ 12 := by
  unfold Tab.resolve
  split
  · exact walk_name _ _
  · exact Nat.zero_le _
def sgid (m : Int) : Prop := ¬ bitsR .and .i64 m 1024 = 0
instance (m : Int) : Decidable (sgid m) := inferInstanceAs (Decidable (¬ _))
/-- A node that is made in a directory. -/
def madeIn (c : Cred) (d n : Node) : Node := { n with uid := c.uid, gid := if sgid d.mode then d.gid else c.gid }
def Tab.dropE (T : Tab) (i : Int) : Tab × Bool := if T.has i = true then (T.put (i - 1).toNat Node.zero, true) else (T, false)
def Tab.plant (T : Tab) (c : Cred) (r : Found × Int) (mk : Node → Node) : Tab × Int × Int :=
  if ¬ r.2 = 0 then (T, 0, r.2) else if ¬ r.1.node = 0 then (T, 0, 17) else if T.can c r.1.dir 3 = false then (T, 0, 13)
  else if 8 ≤ ((T.at r.1.dir).ents.length : Int) then (T, 0, 28) else if T.used = T.room then (T, 0, 28)
  else if ¬ (T.add (madeIn c (T.at r.1.dir) (mk (T.at r.1.dir)))).2.2 = 0 then ((T.add (madeIn c (T.at r.1.dir) (mk (T.at r.1.dir)))).1, 0, (T.add (madeIn c (T.at r.1.dir) (mk (T.at r.1.dir)))).2.2)
  else if ¬ (T.at r.1.dir).withE r.1.name (T.add (madeIn c (T.at r.1.dir) (mk (T.at r.1.dir)))).2.1 = 0 then
    (((T.add (madeIn c (T.at r.1.dir) (mk (T.at r.1.dir)))).1.dropE (T.add (madeIn c (T.at r.1.dir) (mk (T.at r.1.dir)))).2.1).1, 0, (T.at r.1.dir).withE r.1.name (T.add (madeIn c (T.at r.1.dir) (mk (T.at r.1.dir)))).2.1)
  else (((T.add (madeIn c (T.at r.1.dir) (mk (T.at r.1.dir)))).1.putE r.1.dir ((T.at r.1.dir).withN r.1.name (T.add (madeIn c (T.at r.1.dir) (mk (T.at r.1.dir)))).2.1)).1, (T.add (madeIn c (T.at r.1.dir) (mk (T.at r.1.dir)))).2.1,
    ((T.add (madeIn c (T.at r.1.dir) (mk (T.at r.1.dir)))).1.putE r.1.dir ((T.at r.1.dir).withN r.1.name (T.add (madeIn c (T.at r.1.dir) (mk (T.at r.1.dir)))).2.1)).2)
theorem good_dropE {T : Tab} (h : T.good) (i : Int) : (T.dropE i).1.good := by
  unfold Tab.dropE
  split
  · exact put_good h (.inl rfl) _
  · exact h
end Abs
end Go.Proofs.Ytpmnfbgnlanpoaa

set_option linter.unusedVariables false
namespace Go.Proofs.Ytpmnfbgnlanpoaa
namespace Abs
set_option linter.unusedSimpArgs false
set_option maxRecDepth 10000
set_option maxHeartbeats 2000000
attribute [local irreducible] AOps AW AP ACalls thenQ inBlk noGoto

/-! ### package plant -/
theorem drop2_c {t : Nat} {T : Tab} (hw : T.wf) {i : Int} {H : AHeap} (hT : H t = some (.cells (encTab T))) {K : AVal → AHeap → Prop}
    (hK : K (.b (T.dropE i).2) (H.put t (.cells (encTab (T.dropE i).1)))) : ACalls Try.prog 62 [.ptr t 0, .i i] H K := by
  unfold Tab.dropE at hK
  refine drop_c hw hT ?_
  split
  · rename_i h
    rw [if_pos h] at hK; exact hK
  · rename_i h
    rw [if_neg h, put_id' hT] at hK; exact hK
end Abs
end Go.Proofs.Ytpmnfbgnlanpoaa
