import Derived.Test.YtpifnlodilcgkaaGreatXA
import Derived.Test.YtpifnlodilcgkaaGreatZ1
import Derived.Test.YtpifnlodilcgkaaGreatXD
set_option linter.unusedVariables false
namespace Go.Proofs.YtpifnlodilcgkaaGreat
namespace Abs
set_option maxRecDepth 10000
attribute [local irreducible] AOps AW ACalls thenQ inBlk noGoto

/-! ### walks through trees: the plain law -/
/-! names of a path are not empty -/
theorem splitL_ne : ∀ (r cur x : List UInt8), x ∈ splitL cur r → x ≠ []
  | [], cur, x, h => by
    simp only [splitL] at h
    split at h
    · cases h
    · rename_i hne
      rw [List.mem_singleton.1 h]; exact hne
  | c :: r, cur, x, h => by
    simp only [splitL] at h
    split at h
    · split at h
      · exact splitL_ne r [] x h
      · rename_i hne
        rcases List.mem_cons.1 h with rfl | h
        · exact hne
        · exact splitL_ne r [] x h
    · exact splitL_ne r _ x h
theorem splitOf_ne (s x : ByteArray) (h : x ∈ splitOf s) : x ≠ ⟨#[]⟩ := by
  have hn : ∀ x ∈ namesOf s, x ≠ ⟨#[]⟩ := fun x hx => by
    obtain ⟨y, hy, rfl⟩ := List.mem_map.1 hx
    exact fun e => splitL_ne _ _ _ hy ((ofL_nil y).1 e)
  unfold splitOf at h
  split at h
  · rcases List.mem_append.1 h with h | h
    · exact hn x h
    · rw [List.mem_singleton.1 h]; decide
  · exact hn x h

/-! ### what is found may be searched for -/
def Tab.up (T : Tab) : Nat → Int → Int
  | 0, i => i
  | n + 1, i => T.up n (T.parent i)
def Anc (T : Tab) (c : Cred) (i : Int) : Prop := ∀ n : Nat, T.up (n + 1) i ≠ 0 → T.can c (T.up (n + 1) i) 1 = true
theorem parent0 {T : Tab} (hg : T.good) (ht : T.tree) : T.parent 0 = 0 := by
  refine parent_none hg.wf ?_
  by_cases z : T.links 0 = 0
  · exact z
  · obtain ⟨d, hd⟩ := (links_pos hg.wf).1 (show 0 < T.links 0 by have := links_nonneg T 0; omega)
    have := has_rng (ht.ents d 0 hd)
    omega
theorem up0 {T : Tab} (hg : T.good) (ht : T.tree) : ∀ n : Nat, T.up n 0 = 0
  | 0 => rfl
  | n + 1 => by rw [Tab.up, parent0 hg ht]; exact up0 hg ht n
theorem parent1 {T : Tab} (hg : T.good) (ht : T.tree) : T.parent 1 = 0 := parent_none hg.wf ht.top
theorem anc1 {T : Tab} (hg : T.good) (ht : T.tree) (c : Cred) : Anc T c 1 := fun n h => by
  rw [Tab.up, parent1 hg ht, up0 hg ht] at h; exact absurd rfl h
theorem dir_of_ent {T : Tab} (hg : T.good) {d i : Int} (h : T.ent d i) : (T.at d).kind = 2 := by
  obtain ⟨e, he, _⟩ := h
  rcases at_zero_ok hg d with z | z
  · rw [z] at he; cases he
  · by_cases hk2 : (T.at d).kind = 2
    · exact hk2
    · rw [nodir_ents0 z hk2] at he; cases he
theorem find_ent {T : Tab} {d : Int} {name : ByteArray} (h : (T.at d).find name ≠ 0) : T.ent d ((T.at d).find name) := by
  unfold Node.find at h ⊢
  cases hp : (T.at d).place name with
  | none => rw [hp] at h; exact absurd rfl h
  | some k =>
    obtain ⟨hk, _⟩ := place_lt hp
    refine ⟨(T.at d).ents[k], List.getElem_mem hk, ?_⟩
    simp only [List.getD_eq_getElem?_getD, List.getElem?_eq_getElem hk, Option.getD_some]
structure Srch (T : Tab) (c : Cred) (s : RSt) : Prop where
  has : T.has s.pos = true
  anc : (T.at s.pos).kind = 2 → Anc T c s.pos
  emp : s.left = [] → (T.at s.pos).kind = 2
  ne : ∀ x ∈ s.left, x ≠ ⟨#[]⟩
def SrchR (T : Tab) (c : Cred) (fo : Bool) (r : Found × Int) : Prop :=
  (r.2 ≠ 0 ∧ r.1 = Found.zero) ∨ (r.2 = 0 ∧ (T.at r.1.dir).kind = 2 ∧ Anc T c r.1.dir ∧
    ((r.1.name = ⟨#[]⟩ ∧ r.1.dir = r.1.node) ∨ (r.1.name ≠ ⟨#[]⟩ ∧ T.can c r.1.dir 1 = true ∧ (T.at r.1.dir).find r.1.name = r.1.node ∧ ¬ (fo = true ∧ (T.at r.1.node).kind = 3))))
theorem take_srch {T : Tab} (hg : T.good) (ht : T.tree) {c : Cred} {fo : Bool} {s : RSt} {name : ByteArray} {rest : List ByteArray} (h : Srch T c s) (hl : s.left = name :: rest) :
    (∀ s', T.take c fo s name rest = .inl s' → Srch T c s') ∧ (∀ r, T.take c fo s name rest = .inr r → SrchR T c fo r) := by
  have hne : ∀ x ∈ rest, x ≠ ⟨#[]⟩ := fun x hx => h.ne x (by rw [hl]; exact List.mem_cons_of_mem _ hx)
  have hnm : name ≠ ⟨#[]⟩ := h.ne name (by rw [hl]; exact List.mem_cons_self)
  unfold Tab.take
  by_cases k1 : ¬ (T.at s.pos).kind = 2
  · rw [if_pos k1]; exact ⟨fun s' e => (by cases e), fun r e => by cases e; exact .inl ⟨(by decide : (20 : Int) ≠ 0), rfl⟩⟩
  rw [if_neg k1]
  have hk := Decidable.of_not_not k1
  have hanc := h.anc hk
  by_cases k2 : T.can c s.pos 1 = false
  · rw [if_pos k2]; exact ⟨fun s' e => (by cases e), fun r e => by cases e; exact .inl ⟨(by decide : (13 : Int) ≠ 0), rfl⟩⟩
  rw [if_neg k2]
  have hcan : T.can c s.pos 1 = true := by simpa using k2
  by_cases k3 : name = dotS
  · rw [if_pos k3]; exact ⟨fun s' e => by cases e; exact ⟨h.has, fun _ => hanc, fun _ => hk, hne⟩, fun r e => by cases e⟩
  rw [if_neg k3]
  by_cases k4 : name = dotdotS
  · rw [if_pos k4]
    refine ⟨fun s' e => ?_, fun r e => by cases e⟩
    cases e
    by_cases hp : T.parent s.pos = 0
    · rw [if_pos hp]; exact ⟨h.has, fun _ => hanc, fun _ => hk, hne⟩
    · rw [if_neg hp]
      have he := parent_ent hp
      exact ⟨ent_has he, fun _ n hn => hanc (n + 1) hn, fun _ => dir_of_ent hg he, hne⟩
  rw [if_neg k4]
  by_cases k5 : 12 < (name.size : Int)
  · rw [if_pos k5]; exact ⟨fun s' e => (by cases e), fun r e => by cases e; exact .inl ⟨(by decide : (36 : Int) ≠ 0), rfl⟩⟩
  rw [if_neg k5]
  by_cases k6 : (T.at s.pos).find name = 0 ∧ 0 < rest.length
  · rw [if_pos k6]; exact ⟨fun s' e => (by cases e), fun r e => by cases e; exact .inl ⟨(by decide : (2 : Int) ≠ 0), rfl⟩⟩
  rw [if_neg k6]
  by_cases k7 : (T.at ((T.at s.pos).find name)).kind = 3 ∧ (fo = true ∨ 0 < rest.length)
  · rw [if_pos k7]
    by_cases k8 : s.links = 8
    · rw [if_pos k8]; exact ⟨fun s' e => (by cases e), fun r e => by cases e; exact .inl ⟨(by decide : (40 : Int) ≠ 0), rfl⟩⟩
    rw [if_neg k8]
    refine ⟨fun s' e => ?_, fun r e => by cases e⟩
    cases e
    have hne2 : ∀ x ∈ splitOf (T.at ((T.at s.pos).find name)).target ++ rest, x ≠ ⟨#[]⟩ := fun x hx => by
      rcases List.mem_append.1 hx with hx | hx
      · exact splitOf_ne _ x hx
      · exact hne x hx
    by_cases ha : absOf (T.at ((T.at s.pos).find name)).target = true
    · rw [if_pos ha]; exact ⟨has_kind'.2 (by rw [ht.root]; decide), fun _ => anc1 hg ht c, fun _ => ht.root, hne2⟩
    · rw [if_neg ha]; exact ⟨h.has, fun _ => hanc, fun _ => hk, hne2⟩
  rw [if_neg k7]
  by_cases k9 : rest.length = 0
  · rw [if_pos k9]
    refine ⟨fun s' e => (by cases e), fun r e => ?_⟩
    cases e
    exact .inr ⟨rfl, hk, hanc, .inr ⟨hnm, hcan, rfl, fun q => k7 ⟨q.2, .inl q.1⟩⟩⟩
  rw [if_neg k9]
  refine ⟨fun s' e => ?_, fun r e => by cases e⟩
  cases e
  have hid : (T.at s.pos).find name ≠ 0 := fun e => k6 ⟨e, by omega⟩
  have he := find_ent hid
  have hh := ht.ents _ _ he
  refine ⟨hh, fun hk2 => ?_, fun e => absurd (show rest.length = 0 from by rw [show rest = [] from e]; rfl) k9, hne⟩
  have h1 : (T.at s.pos).find name ≠ 1 := fun e => by
    have := (links_pos hg.wf).2 ⟨_, he⟩
    rw [e, ht.top] at this
    exact absurd this (by decide)
  have hp := one_parent hg.wf (ht.dirs _ hk2 h1).1 he
  intro n hn
  cases n with
  | zero =>
    have : T.up (0 + 1) ((T.at s.pos).find name) = s.pos := hp
    rw [this]; exact hcan
  | succ n =>
    have : T.up (n + 1 + 1) ((T.at s.pos).find name) = T.up (n + 1) s.pos := by rw [Tab.up, hp]
    rw [this] at hn ⊢
    exact hanc n hn
theorem walk_srch {T : Tab} (hg : T.good) (ht : T.tree) {c : Cred} {fo : Bool} : ∀ (f : Nat) (s : RSt), Srch T c s → s.links ≤ 8 → s.m < f → SrchR T c fo (T.walk c fo f s)
  | 0, s, _, _, h => absurd h (Nat.not_lt_zero _)
  | f + 1, s, h, h8, hm => by
    cases hq : s.left with
    | nil =>
      rw [walk_end hq]
      exact .inr ⟨rfl, h.emp hq, h.anc (h.emp hq), .inl ⟨rfl, rfl⟩⟩
    | cons name rest =>
      rw [walk_step hq]
      obtain ⟨t1, t2⟩ := take_srch (fo := fo) hg ht h hq
      cases hk : T.take c fo s name rest with
      | inr r => exact t2 r hk
      | inl s' =>
        obtain ⟨h1, h2⟩ := take_m hg h8 hq hk
        exact walk_srch hg ht f s' (t1 s' hk) h2 (by omega)
theorem fits_small {T : Tab} {path : ByteArray} (h : T.fitsE path = 0) : path.size ≤ 64 ∧ path ≠ ⟨#[]⟩ := by
  unfold Tab.fitsE at h
  split at h
  · cases h
  · rename_i h1
    split at h
    · cases h
    · exact ⟨by omega, h1⟩
theorem start_m {T : Tab} {path : ByteArray} (h : T.fitsE path = 0) (p : Int) : RSt.m ⟨p, 0, splitOf path⟩ < 2000 := by
  have h1 := splitOf_len path
  have h2 := (fits_small h).1
  show (8 - 0) * 110 + (splitOf path).length < 2000
  omega
theorem resolve_srch {T : Tab} (hg : T.good) (ht : T.tree) (c : Cred) (path : ByteArray) (fo : Bool) : SrchR T c fo (T.resolve c path fo) := by
  unfold Tab.resolve
  split
  · rename_i h
    exact walk_srch hg ht 2000 _ ⟨has_kind'.2 (by rw [ht.root]; decide), fun _ => anc1 hg ht c, fun _ => ht.root, fun x hx => splitOf_ne _ x hx⟩ (Nat.zero_le _) (start_m h 1)
  · rename_i h; exact .inl ⟨h, rfl⟩
end Abs
end Go.Proofs.YtpifnlodilcgkaaGreat

set_option linter.unusedVariables false
namespace Go.Proofs.YtpifnlodilcgkaaGreat
namespace Abs
set_option maxRecDepth 10000
attribute [local irreducible] AOps AW ACalls thenQ inBlk noGoto
attribute [local irreducible] absOf endOf

/-! ### root, and who has the bits: the plain law -/
/-- Two tables that differ in modes alone; in the second one each directory lets who asks search it. -/
structure Open (T U : Tab) (c : Cred) : Prop where
  kind : ∀ i, (U.at i).kind = (T.at i).kind
  ents : ∀ i, (U.at i).ents = (T.at i).ents
  target : ∀ i, (U.at i).target = (T.at i).target
  parent : ∀ i, U.parent i = T.parent i
  can : ∀ i, (T.at i).kind = 2 → U.can c i 1 = true
theorem Open.has {T U : Tab} {c : Cred} (h : Open T U c) (i : Int) : U.has i = T.has i := by
  have h1 := has_kind' (T := U) (d := i)
  have h2 := has_kind' (T := T) (d := i)
  rw [h.kind] at h1
  cases hu : U.has i <;> cases ht : T.has i <;> simp_all
theorem Open.find {T U : Tab} {c : Cred} (h : Open T U c) (i : Int) (name : ByteArray) : (U.at i).find name = (T.at i).find name := by
  unfold Node.find Node.place
  rw [h.ents]
end Abs
end Go.Proofs.YtpifnlodilcgkaaGreat

set_option linter.unusedVariables false
set_option linter.unusedSimpArgs false
namespace Go.Proofs.YtpifnlodilcgkaaGreat
namespace Abs
set_option maxRecDepth 10000
attribute [local irreducible] AOps AW ACalls thenQ inBlk noGoto

/-! ### dots between names: the plain law -/
inductive Dots : List ByteArray → List ByteArray → Prop where
  | nil : Dots [] []
  | cons {l l' : List ByteArray} (x : ByteArray) : Dots l l' → Dots (x :: l) (x :: l')
  | dot {l l' : List ByteArray} (x : ByteArray) : Dots (x :: l) l' → Dots (x :: l) (dotS :: l')
theorem Dots.refl : ∀ l : List ByteArray, Dots l l
  | [] => .nil
  | x :: l => .cons x (Dots.refl l)
theorem Dots.len {l l' : List ByteArray} (h : Dots l l') : (l.length = 0 ↔ l'.length = 0) := by
  cases h <;> simp
end Abs
end Go.Proofs.YtpifnlodilcgkaaGreat

set_option linter.unusedVariables false
set_option linter.unusedSimpArgs false
namespace Go.Proofs.YtpifnlodilcgkaaGreat
namespace Abs
set_option maxRecDepth 10000
attribute [local irreducible] AOps AW ACalls thenQ inBlk noGoto
attribute [local irreducible] absOf

/-! ### a path in two parts: the plain law -/
structure NameIs (s : ByteArray) : Prop where
  ne : s ≠ ⟨#[]⟩
  size : s.size ≤ 12
  dot : s ≠ dotS
  dots : s ≠ dotdotS
  slash : hasB s 47 = false
  nul : hasB s 0 = false
end Abs
end Go.Proofs.YtpifnlodilcgkaaGreat
