import Derived.Test.YtpmnfbgnlanpoaaGU
import Derived.Test.YtpmnfbgnlanpoaaW1
set_option linter.unusedVariables false
namespace Go.Proofs.Ytpmnfbgnlanpoaa
namespace Abs
set_option maxRecDepth 10000
attribute [local irreducible] AOps AW ACalls thenQ inBlk noGoto
/-! ### why there is none that is made: plain law -/
def Tab.plantE (T : Tab) (c : Cred) (r : Found × Int) : Int :=
  if ¬ r.2 = 0 then r.2 else if ¬ r.1.node = 0 then 17 else if T.can c r.1.dir 3 = false then 13
      else if 8 ≤ ((T.at r.1.dir).ents.length : Int) then 28 else if T.used = T.room then 28
      else if (idOk c.uid && idOk (if sgid (T.at r.1.dir).mode then (T.at r.1.dir).gid else c.gid)) = false then 22
      else match T.free with | none => 28 | some k => (T.at r.1.dir).withE r.1.name ((k : Int) + 1)
theorem at_okW {T : Tab} (hg : T.good) {i : Int} (h : T.has i = true) : nodeOk (T.at i) = true := by
  rcases at_zero_ok hg i with z | z
  · have := has_kind'.1 h
    rw [z] at this; exact absurd rfl this
  · exact z
theorem ok_idsW {n : Node} (h : nodeOk n = true) : (0 ≤ n.mode ∧ n.mode ≤ 4095) ∧ idOk n.gid = true := by
  unfold nodeOk at h
  simp only [Bool.and_eq_true, decide_eq_true_eq] at h
  exact ⟨⟨by omega, by omega⟩, by simp_all⟩
theorem plant_errM {T : Tab} (hg : T.good) (c : Cred) (r : Found × Int) (mk : Node → Node) (hm : ∀ d, 0 ≤ d.mode ∧ d.mode ≤ 4095 → idOk d.gid = true → nodeOk (madeIn c d (mk d)) = (idOk c.uid && idOk (if sgid d.mode then d.gid else c.gid))) : (T.plant c r mk).2.2 = T.plantE c r := by
  rw [plant_err hg]
  unfold Tab.plantE
  by_cases h1 : ¬ r.2 = 0
  · rw [if_pos h1, if_pos h1]
  rw [if_neg h1, if_neg h1]
  by_cases h2 : ¬ r.1.node = 0
  · rw [if_pos h2, if_pos h2]
  rw [if_neg h2, if_neg h2]
  by_cases h3 : T.can c r.1.dir 3 = false
  · rw [if_pos h3, if_pos h3]
  have h4 := ok_idsW (at_okW hg (can_has (by simpa using h3)))
  rw [if_neg h3, if_neg h3, hm _ h4.1 h4.2]
  rfl
theorem dir_made (c : Cred) (mode umask : Int) (d : Node) (h : 0 ≤ d.mode ∧ d.mode ≤ 4095) (hd : idOk d.gid = true) : nodeOk (madeIn c d (dirN mode umask d)) = (idOk c.uid && idOk (if sgid d.mode then d.gid else c.gid)) := by
  have hm := (dirMode_ok mode umask d h).rng
  exact made_ok c d _ hd (.inr (.inl ⟨rfl, rfl, rfl, hm.1, by omega⟩)) rfl
theorem file_made (c : Cred) (mode umask : Int) (d : Node) (hd : idOk d.gid = true) : nodeOk (madeIn c d (fileN mode umask)) = (idOk c.uid && idOk (if sgid d.mode then d.gid else c.gid)) := by
  have hm := (fileMode_ok mode umask).rng
  refine made_ok c d _ hd (.inl ⟨rfl, rfl, rfl, hm.1, ?_⟩) rfl
  have := hm.2
  show bitsR .andNot .i64 (mode % 512) umask ≤ 4095
  omega
theorem link_made (c : Cred) (d : Node) (hd : idOk d.gid = true) : nodeOk (madeIn c d (linkN ⟨#[113]⟩)) = (idOk c.uid && idOk (if sgid d.mode then d.gid else c.gid)) :=
  made_ok c d _ hd (.inr (.inr ⟨rfl, rfl, by decide, rfl⟩)) rfl
theorem symlink_q (T : Tab) (c : Cred) (path : ByteArray) : T.symlink c ⟨#[113]⟩ path = ((T.plant c (T.resolve c path false) (fun _ => linkN ⟨#[113]⟩)).1, (T.plant c (T.resolve c path false) (fun _ => linkN ⟨#[113]⟩)).2.2) := by
  unfold Tab.symlink
  rw [if_neg (by decide), if_neg (by decide), if_neg (by decide)]
end Abs
end Go.Proofs.Ytpmnfbgnlanpoaa
