import Derived.Test.YtkopeigfjjbajaaZ3
set_option linter.unusedVariables false
namespace Go.Proofs.Ytkopeigfjjbajaa
namespace Abs
set_option maxRecDepth 10000
attribute [local irreducible] AOps AW ACalls thenQ inBlk noGoto
attribute [local irreducible] absOf endOf

/-! ### root, and who has the bits: the plain law -/
def rootC : Cred := ⟨0, 0, []⟩
theorem root_can (T : Tab) (i want : Int) : T.can rootC i want = T.has i := by
  unfold Tab.can Cred.can Cred.root rootC
  simp
theorem take_root (T : Tab) (c : Cred) (fo : Bool) (s : RSt) (name : ByteArray) (rest : List ByteArray) : T.take c fo s name rest = T.take rootC fo s name rest ∨ T.take c fo s name rest = .inr (Found.zero, 13) := by
  by_cases k1 : ¬ (T.at s.pos).kind = 2
  · unfold Tab.take; rw [if_pos k1, if_pos k1]; exact .inl rfl
  have hk := Decidable.of_not_not k1
  have hr : ¬ T.can rootC s.pos 1 = false := by rw [root_can, has_kind'.2 (by rw [hk]; decide)]; decide
  by_cases k2 : T.can c s.pos 1 = false
  · refine .inr ?_
    unfold Tab.take; rw [if_neg k1, if_pos k2]
  · refine .inl ?_
    unfold Tab.take
    rw [if_neg k1, if_neg k2, if_neg k1, if_neg hr]
theorem walk_root (T : Tab) (c : Cred) (fo : Bool) : ∀ (f : Nat) (s : RSt), T.walk c fo f s = T.walk rootC fo f s ∨ T.walk c fo f s = (Found.zero, 13)
  | 0, s => .inl rfl
  | f + 1, s => by
    cases hq : s.left with
    | nil => rw [walk_end hq, walk_end hq]; exact .inl rfl
    | cons name rest =>
      rw [walk_step hq, walk_step hq]
      rcases take_root T c fo s name rest with e | e
      · rw [e]
        cases T.take rootC fo s name rest with
        | inr r => exact .inl rfl
        | inl s' => exact walk_root T c fo f s'
      · rw [e]; exact .inr rfl
theorem take_root13 (T : Tab) (fo : Bool) (s : RSt) (name : ByteArray) (rest : List ByteArray) (r : Found × Int) (h : T.take rootC fo s name rest = .inr r) : r.2 ≠ 13 := by
  unfold Tab.take at h
  split at h
  · cases h; exact (by decide : (20 : Int) ≠ 13)
  rename_i k1
  have hk := Decidable.of_not_not k1
  rw [if_neg (by rw [root_can, has_kind'.2 (by rw [hk]; decide)]; decide)] at h
  split at h
  · cases h
  split at h
  · cases h
  split at h
  · cases h; exact (by decide : (36 : Int) ≠ 13)
  split at h
  · cases h; exact (by decide : (2 : Int) ≠ 13)
  split at h
  · split at h
    · cases h; exact (by decide : (40 : Int) ≠ 13)
    · cases h
  split at h
  · cases h; exact (by decide : (0 : Int) ≠ 13)
  · cases h
theorem walk_root13 (T : Tab) (fo : Bool) : ∀ (f : Nat) (s : RSt), (T.walk rootC fo f s).2 ≠ 13
  | 0, s => (by decide : (0 : Int) ≠ 13)
  | f + 1, s => by
    cases hq : s.left with
    | nil => rw [walk_end hq]; exact (by decide : (0 : Int) ≠ 13)
    | cons name rest =>
      rw [walk_step hq]
      cases ht : T.take rootC fo s name rest with
      | inr r => exact take_root13 T fo s name rest r ht
      | inl s' => exact walk_root13 T fo f s'
theorem fits13 (T : Tab) (path : ByteArray) : T.fitsE path ≠ 13 := by
  unfold Tab.fitsE
  split
  · decide
  · split
    · decide
    · split
      · decide
      · split <;> decide
theorem resolve_root (T : Tab) (c : Cred) (path : ByteArray) (fo : Bool) : (T.resolve c path fo = T.resolve rootC path fo ∨ T.resolve c path fo = (Found.zero, 13)) ∧ (T.resolve rootC path fo).2 ≠ 13 := by
  unfold Tab.resolve
  split
  · exact ⟨walk_root T c fo 2000 _, walk_root13 T fo 2000 _⟩
  · exact ⟨.inl rfl, fits13 T path⟩
/-- Two tables that differ in modes alone; in the second one each directory lets who asks search it. -/
structure Open (T U : Tab) (c : Cred) : Prop where
  kind : ∀ i, (U.at i).kind = (T.at i).kind
  ents : ∀ i, (U.at i).ents = (T.at i).ents
  target : ∀ i, (U.at i).target = (T.at i).target
  parent : ∀ i, U.parent i = T.parent i
  can : ∀ i, (T.at i).kind = 2 → U.can c i 1 = true
theorem Open.has {T U : Tab} {c : Cred} (h : Open T U c) (i : Int) : U.has i = T.has i := by
  have h1 := has_kind' (T := U) (d := i)
  have h2 := has_kind' (T := T) (d := i)
  rw [h.kind] at h1
  cases hu : U.has i <;> cases ht : T.has i <;> simp_all
theorem Open.find {T U : Tab} {c : Cred} (h : Open T U c) (i : Int) (name : ByteArray) : (U.at i).find name = (T.at i).find name := by
  unfold Node.find Node.place
  rw [h.ents]
theorem take_open {T U : Tab} {c : Cred} (h : Open T U c) (fo : Bool) (s : RSt) (name : ByteArray) (rest : List ByteArray) : U.take c fo s name rest = T.take rootC fo s name rest := by
  unfold Tab.take
  simp only [h.kind, h.find, h.target, h.parent]
  by_cases k1 : ¬ (T.at s.pos).kind = 2
  · rw [if_pos k1, if_pos k1]
  have hk := Decidable.of_not_not k1
  rw [if_neg k1, if_neg k1, if_neg (show ¬ U.can c s.pos 1 = false by rw [h.can _ hk]; decide), if_neg (show ¬ T.can rootC s.pos 1 = false by rw [root_can, has_kind'.2 (by rw [hk]; decide)]; decide)]
theorem walk_open {T U : Tab} {c : Cred} (h : Open T U c) (fo : Bool) : ∀ (f : Nat) (s : RSt), U.walk c fo f s = T.walk rootC fo f s
  | 0, s => rfl
  | f + 1, s => by
    cases hq : s.left with
    | nil => rw [walk_end hq, walk_end hq]
    | cons name rest =>
      rw [walk_step hq, walk_step hq, take_open h]
      cases T.take rootC fo s name rest with
      | inr r => rfl
      | inl s' => exact walk_open h fo f s'
theorem resolve_open {T U : Tab} {c : Cred} (h : Open T U c) (path : ByteArray) (fo : Bool) : U.resolve c path fo = T.resolve rootC path fo := by
  have hf : U.fitsE path = T.fitsE path := by unfold Tab.fitsE; rw [h.has]
  unfold Tab.resolve
  rw [hf, walk_open h]
theorem cls_range (c : Cred) (uid gid : Int) : c.cls uid gid = 0 ∨ c.cls uid gid = 1 ∨ c.cls uid gid = 2 := by
  unfold Cred.cls
  split
  · exact .inl rfl
  · split
    · exact .inr (.inl rfl)
    · exact .inr (.inr rfl)
theorem tells_same {T U : Tab} (he : ∀ i, (U.at i).ents = (T.at i).ents) (i : Int) : ∀ k : Nat, U.tells i k = T.tells i k
  | 0 => rfl
  | k + 1 => by
    have h : ∀ V : Tab, (if V.has ((k : Int) + 1) = true then V.tellsOf i k else []) = tellsIn i ((k : Int) + 1) (V.at ((k : Int) + 1)).ents := fun V => by
      split
      · rename_i hh; unfold Tab.tellsOf tellsIn; rw [at_has hh]
      · rename_i hh; rw [at_none (by simpa using hh)]; rfl
    simp only [Tab.tells, tells_same he i k, h, he]
end Abs
end Go.Proofs.Ytkopeigfjjbajaa
