import Derived.Test.YtpmnfbgnlanpoaaGE
import Derived.Test.YtpmnfbgnlanpoaaGS
import Derived.Test.YtpmnfbgnlanpoaaGI
import Derived.Test.YtpmnfbgnlanpoaaZ7
set_option linter.unusedVariables false
namespace Go.Proofs.Ytpmnfbgnlanpoaa
namespace Abs
set_option maxRecDepth 10000
attribute [local irreducible] AOps AW ACalls thenQ inBlk noGoto

/-! ### what is made: plain law -/
structure PlantF (T : Tab) (c : Cred) (r : Found) (m : Node) (U : Tab) (id : Int) : Prop where
  good : U.good
  room : U.room = T.room
  ok : nodeOk m = true
  dir : (T.at r.dir).kind = 2
  with_ : (T.at r.dir).withE r.name id = 0
  ne : r.dir ≠ id
  new : T.has id = false
  id1 : 1 ≤ id
  at_ : ∀ i, U.at i = if i = r.dir then (T.at r.dir).withN r.name id else if i = id then m else T.at i
  links : m.ents = [] → ∀ i, U.links i = T.links i + if i = id then 1 else 0
  used : U.used = T.used + 1
theorem plant_err {T : Tab} (hg : T.good) (c : Cred) (r : Found × Int) (mk : Node → Node) :
    (T.plant c r mk).2.2 = if ¬ r.2 = 0 then r.2 else if ¬ r.1.node = 0 then 17 else if T.can c r.1.dir 3 = false then 13
      else if 8 ≤ ((T.at r.1.dir).ents.length : Int) then 28 else if T.used = T.room then 28
      else if nodeOk (madeIn c (T.at r.1.dir) (mk (T.at r.1.dir))) = false then 22
      else match T.free with | none => 28 | some k => (T.at r.1.dir).withE r.1.name ((k : Int) + 1) := by
  unfold Tab.plant
  by_cases h1 : ¬ r.2 = 0
  · rw [if_pos h1, if_pos h1]
  rw [if_neg h1, if_neg h1]
  by_cases h2 : ¬ r.1.node = 0
  · rw [if_pos h2, if_pos h2]
  rw [if_neg h2, if_neg h2]
  by_cases h3 : T.can c r.1.dir 3 = false
  · rw [if_pos h3, if_pos h3]
  rw [if_neg h3, if_neg h3]
  by_cases h4 : 8 ≤ ((T.at r.1.dir).ents.length : Int)
  · rw [if_pos h4, if_pos h4]
  rw [if_neg h4, if_neg h4]
  by_cases h5 : T.used = T.room
  · rw [if_pos h5, if_pos h5]
  rw [if_neg h5, if_neg h5]
  generalize madeIn c (T.at r.1.dir) (mk (T.at r.1.dir)) = m
  have hh : T.has r.1.dir = true := can_has (by simpa using h3)
  rcases add_cases T m with ⟨k, hf, hok, ha⟩ | ⟨hf, hok, ha⟩ | ⟨hok, ha⟩
  · rw [ha, hf, if_neg (fun q => q rfl), if_neg (show ¬ nodeOk m = false by rw [hok]; decide)]
    simp only
    by_cases h6 : ¬ (T.at r.1.dir).withE r.1.name ((k : Int) + 1) = 0
    · rw [if_pos h6]
    · rw [if_neg h6]
      have h6' : (T.at r.1.dir).withE r.1.name ((k : Int) + 1) = 0 := Decidable.of_not_not h6
      obtain ⟨j1, j2⟩ := add_has hg hf hok
      obtain ⟨j3, j4, j5⟩ := j2 r.1.dir hh
      obtain ⟨p1, -⟩ := put_with (T := T.put k m) (put_good hg (.inr hok) k) (p := r.1.dir) j3 (name := r.1.name) (id := (k : Int) + 1) (by rw [j5]; exact h6')
      rw [j5] at p1
      rw [p1, h6']
  · rw [ha, hf, if_pos (show ¬ (28 : Int) = 0 by decide), if_neg (show ¬ nodeOk m = false by rw [hok]; decide)]
  · rw [ha, if_pos (show ¬ (22 : Int) = 0 by decide), if_pos hok]
theorem plant_ok {T : Tab} (hg : T.good) (c : Cred) (r : Found × Int) (mk : Node → Node) (h : (T.plant c r mk).2.2 = 0) :
    r.2 = 0 ∧ r.1.node = 0 ∧ PlantF T c r.1 (madeIn c (T.at r.1.dir) (mk (T.at r.1.dir))) (T.plant c r mk).1 (T.plant c r mk).2.1 := by
  unfold Tab.plant at h ⊢
  by_cases h1 : ¬ r.2 = 0
  · rw [if_pos h1] at h; exact absurd h h1
  rw [if_neg h1] at h ⊢
  by_cases h2 : ¬ r.1.node = 0
  · rw [if_pos h2] at h; exact absurd (show (17 : Int) = 0 from h) (by decide)
  rw [if_neg h2] at h ⊢
  by_cases h3 : T.can c r.1.dir 3 = false
  · rw [if_pos h3] at h; exact absurd (show (13 : Int) = 0 from h) (by decide)
  rw [if_neg h3] at h ⊢
  by_cases h4 : 8 ≤ ((T.at r.1.dir).ents.length : Int)
  · rw [if_pos h4] at h; exact absurd (show (28 : Int) = 0 from h) (by decide)
  rw [if_neg h4] at h ⊢
  by_cases h5 : T.used = T.room
  · rw [if_pos h5] at h; exact absurd (show (28 : Int) = 0 from h) (by decide)
  rw [if_neg h5] at h ⊢
  refine ⟨Decidable.of_not_not h1, Decidable.of_not_not h2, ?_⟩
  generalize madeIn c (T.at r.1.dir) (mk (T.at r.1.dir)) = m at h ⊢
  have hh : T.has r.1.dir = true := can_has (by simpa using h3)
  rcases add_cases T m with ⟨k, hf, hok, ha⟩ | ⟨hf, hok, ha⟩ | ⟨hok, ha⟩
  · rw [ha, if_neg (fun q => q rfl)] at h ⊢
    simp only at h ⊢
    by_cases h6 : ¬ (T.at r.1.dir).withE r.1.name ((k : Int) + 1) = 0
    · rw [if_pos h6] at h; exact absurd h h6
    · rw [if_neg h6]
      have h6' : (T.at r.1.dir).withE r.1.name ((k : Int) + 1) = 0 := Decidable.of_not_not h6
      obtain ⟨j1, j2⟩ := add_has hg hf hok
      obtain ⟨j3, j4, j5⟩ := j2 r.1.dir hh
      obtain ⟨f1, f2⟩ := free_spec hf
      have hgk := put_good hg (.inr hok) k
      obtain ⟨p1, p2, p3, p4, p5, p6⟩ := put_with (T := T.put k m) hgk (p := r.1.dir) j3 (name := r.1.name) (id := (k : Int) + 1) (by rw [j5]; exact h6')
      rw [j5] at p1 p2 p3 p4 p6
      have hat := at_put hg f1 (.inr hok)
      rw [p1]
      have hwk := (withE_zero h6').1
      refine ⟨p3, rfl, hok, hwk, h6', j4, f2, by show (1 : Int) ≤ (k : Int) + 1; omega, fun i => ?_, fun he i => ?_, ?_⟩
      · show (Tab.put (T.put k m) _ _).at i = _
        rw [p4, hat]
      · show (Tab.put (T.put k m) _ _).links i = T.links i + if i = (k : Int) + 1 then 1 else 0
        rw [p6]
        have h8 := links_put hg f1 (.inr hok) i
        have h9 : T.nd k = Node.zero := by
          have := at_none f2
          exact this
        rw [h9, show cntE Node.zero i = 0 from rfl, show cntE m i = 0 by unfold cntE; rw [he]; rfl] at h8
        omega
      · show (Tab.put (T.put k m) _ _).used = _
        rw [used_same hgk j3 (ok_kind p2)]
        have h8 := used_put hg.wf f1 m
        rw [f2, decide_eq_false (ok_kind hok)] at h8
        rw [h8]; show T.used + (1 - 0) = T.used + 1; omega
  · rw [ha, if_pos (show ¬ (28 : Int) = 0 by decide)] at h; exact absurd (show (28 : Int) = 0 from h) (by decide)
  · rw [ha, if_pos (show ¬ (22 : Int) = 0 by decide)] at h; exact absurd (show (22 : Int) = 0 from h) (by decide)
theorem plant_kind {T U : Tab} {c : Cred} {r : Found} {m : Node} {id : Int} (h : PlantF T c r m U id) {i : Int} (hi : i ≠ id) : ∃ l, U.at i = { T.at i with ents := l } := by
  rw [h.at_]
  split
  · rename_i z
    rw [withN_ents h.with_, z]; exact ⟨_, rfl⟩
  · first | (rw [if_neg hi]; exact ⟨_, rfl⟩) | exact ⟨_, rfl⟩
end Abs
end Go.Proofs.Ytpmnfbgnlanpoaa
