import Derived.Test.YtpmnfbgnlanpoaaXA
import Derived.Test.YtpmnfbgnlanpoaaZ1
import Derived.Test.YtpmnfbgnlanpoaaXD
set_option linter.unusedVariables false
namespace Go.Proofs.Ytpmnfbgnlanpoaa
namespace Abs
set_option maxRecDepth 10000
attribute [local irreducible] AOps AW ACalls thenQ inBlk noGoto

/-! ### walks through trees: the plain law -/
/-! names of a path are not empty -/
theorem splitL_ne : ∀ (r cur x : List UInt8), x ∈ splitL cur r → x ≠ []
  | [], cur, x, h => by
    simp only [splitL] at h
    split at h
    · cases h
    · rename_i hne
      rw [List.mem_singleton.1 h]; exact hne
  | c :: r, cur, x, h => by
    simp only [splitL] at h
    split at h
    · split at h
      · exact splitL_ne r [] x h
      · rename_i hne
        rcases List.mem_cons.1 h with rfl | h
        · exact hne
        · exact splitL_ne r [] x h
    · exact splitL_ne r _ x h
theorem splitOf_ne (s x : ByteArray) (h : x ∈ splitOf s) : x ≠ ⟨#[]⟩ := by
  have hn : ∀ x ∈ namesOf s, x ≠ ⟨#[]⟩ := fun x hx => by
    obtain ⟨y, hy, rfl⟩ := List.mem_map.1 hx
    exact fun e => splitL_ne _ _ _ hy ((ofL_nil y).1 e)
  unfold splitOf at h
  split at h
  · rcases List.mem_append.1 h with h | h
    · exact hn x h
    · rw [List.mem_singleton.1 h]; decide
  · exact hn x h

/-! ### what is found may be searched for -/
def Tab.up (T : Tab) : Nat → Int → Int
  | 0, i => i
  | n + 1, i => T.up n (T.parent i)
def Anc (T : Tab) (c : Cred) (i : Int) : Prop := ∀ n : Nat, T.up (n + 1) i ≠ 0 → T.can c (T.up (n + 1) i) 1 = true
theorem parent0 {T : Tab} (hg : T.good) (ht : T.tree) : T.parent 0 = 0 := by
  refine parent_none hg.wf ?_
  by_cases z : T.links 0 = 0
  · exact z
  · obtain ⟨d, hd⟩ := (links_pos hg.wf).1 (show 0 < T.links 0 by have := links_nonneg T 0; omega)
    have := has_rng (ht.ents d 0 hd)
    omega
theorem up0 {T : Tab} (hg : T.good) (ht : T.tree) : ∀ n : Nat, T.up n 0 = 0
  | 0 => rfl
  | n + 1 => by rw [Tab.up, parent0 hg ht]; exact up0 hg ht n
theorem parent1 {T : Tab} (hg : T.good) (ht : T.tree) : T.parent 1 = 0 := parent_none hg.wf ht.top
theorem anc1 {T : Tab} (hg : T.good) (ht : T.tree) (c : Cred) : Anc T c 1 := fun n h => by
  rw [Tab.up, parent1 hg ht, up0 hg ht] at h; exact absurd rfl h
theorem dir_of_ent {T : Tab} (hg : T.good) {d i : Int} (h : T.ent d i) : (T.at d).kind = 2 := by
  obtain ⟨e, he, _⟩ := h
  rcases at_zero_ok hg d with z | z
  · rw [z] at he; cases he
  · by_cases hk2 : (T.at d).kind = 2
    · exact hk2
    · rw [nodir_ents0 z hk2] at he; cases he
theorem find_ent {T : Tab} {d : Int} {name : ByteArray} (h : (T.at d).find name ≠ 0) : T.ent d ((T.at d).find name) := by
  unfold Node.find at h ⊢
  cases hp : (T.at d).place name with
  | none => rw [hp] at h; exact absurd rfl h
  | some k =>
    obtain ⟨hk, _⟩ := place_lt hp
    refine ⟨(T.at d).ents[k], List.getElem_mem hk, ?_⟩
    simp only [List.getD_eq_getElem?_getD, List.getElem?_eq_getElem hk, Option.getD_some]
structure Srch (T : Tab) (c : Cred) (s : RSt) : Prop where
  has : T.has s.pos = true
  anc : (T.at s.pos).kind = 2 → Anc T c s.pos
  emp : s.left = [] → (T.at s.pos).kind = 2
  ne : ∀ x ∈ s.left, x ≠ ⟨#[]⟩
def SrchR (T : Tab) (c : Cred) (fo : Bool) (r : Found × Int) : Prop :=
  (r.2 ≠ 0 ∧ r.1 = Found.zero) ∨ (r.2 = 0 ∧ (T.at r.1.dir).kind = 2 ∧ Anc T c r.1.dir ∧
    ((r.1.name = ⟨#[]⟩ ∧ r.1.dir = r.1.node) ∨ (r.1.name ≠ ⟨#[]⟩ ∧ T.can c r.1.dir 1 = true ∧ (T.at r.1.dir).find r.1.name = r.1.node ∧ ¬ (fo = true ∧ (T.at r.1.node).kind = 3))))
theorem take_srch {T : Tab} (hg : T.good) (ht : T.tree) {c : Cred} {fo : Bool} {s : RSt} {name : ByteArray} {rest : List ByteArray} (h : Srch T c s) (hl : s.left = name :: rest) :
    (∀ s', T.take c fo s name rest = .inl s' → Srch T c s') ∧ (∀ r, T.take c fo s name rest = .inr r → SrchR T c fo r) := by
  have hne : ∀ x ∈ rest, x ≠ ⟨#[]⟩ := fun x hx => h.ne x (by rw [hl]; exact List.mem_cons_of_mem _ hx)
  have hnm : name ≠ ⟨#[]⟩ := h.ne name (by rw [hl]; exact List.mem_cons_self)
  unfold Tab.take
  by_cases k1 : ¬ (T.at s.pos).kind = 2
  · rw [if_pos k1]; exact ⟨fun s' e => (by cases e), fun r e => by cases e; exact .inl ⟨(by decide : (20 : Int) ≠ 0), rfl⟩⟩
  rw [if_neg k1]
  have hk := Decidable.of_not_not k1
  have hanc := h.anc hk
  by_cases k2 : T.can c s.pos 1 = false
  · rw [if_pos k2]; exact ⟨fun s' e => (by cases e), fun r e => by cases e; exact .inl ⟨(by decide : (13 : Int) ≠ 0), rfl⟩⟩
  rw [if_neg k2]
  have hcan : T.can c s.pos 1 = true := by simpa using k2
  by_cases k3 : name = dotS
  · rw [if_pos k3]; exact ⟨fun s' e => by cases e; exact ⟨h.has, fun _ => hanc, fun _ => hk, hne⟩, fun r e => by cases e⟩
  rw [if_neg k3]
  by_cases k4 : name = dotdotS
  · rw [if_pos k4]
    refine ⟨fun s' e => ?_, fun r e => by cases e⟩
    cases e
    by_cases hp : T.parent s.pos = 0
    · rw [if_pos hp]; exact ⟨h.has, fun _ => hanc, fun _ => hk, hne⟩
    · rw [if_neg hp]
      have he := parent_ent hp
      exact ⟨ent_has he, fun _ n hn => hanc (n + 1) hn, fun _ => dir_of_ent hg he, hne⟩
  rw [if_neg k4]
  by_cases k5 : 12 < (name.size : Int)
  · rw [if_pos k5]; exact ⟨fun s' e => (by cases e), fun r e => by cases e; exact .inl ⟨(by decide : (36 : Int) ≠ 0), rfl⟩⟩
  rw [if_neg k5]
  by_cases k6 : (T.at s.pos).find name = 0 ∧ 0 < rest.length
  · rw [if_pos k6]; exact ⟨fun s' e => (by cases e), fun r e => by cases e; exact .inl ⟨(by decide : (2 : Int) ≠ 0), rfl⟩⟩
  rw [if_neg k6]
  by_cases k7 : (T.at ((T.at s.pos).find name)).kind = 3 ∧ (fo = true ∨ 0 < rest.length)
  · rw [if_pos k7]
    by_cases k8 : s.links = 8
    · rw [if_pos k8]; exact ⟨fun s' e => (by cases e), fun r e => by cases e; exact .inl ⟨(by decide : (40 : Int) ≠ 0), rfl⟩⟩
    rw [if_neg k8]
    refine ⟨fun s' e => ?_, fun r e => by cases e⟩
    cases e
    have hne2 : ∀ x ∈ splitOf (T.at ((T.at s.pos).find name)).target ++ rest, x ≠ ⟨#[]⟩ := fun x hx => by
      rcases List.mem_append.1 hx with hx | hx
      · exact splitOf_ne _ x hx
      · exact hne x hx
    by_cases ha : absOf (T.at ((T.at s.pos).find name)).target = true
    · rw [if_pos ha]; exact ⟨has_kind'.2 (by rw [ht.root]; decide), fun _ => anc1 hg ht c, fun _ => ht.root, hne2⟩
    · rw [if_neg ha]; exact ⟨h.has, fun _ => hanc, fun _ => hk, hne2⟩
  rw [if_neg k7]
  by_cases k9 : rest.length = 0
  · rw [if_pos k9]
    refine ⟨fun s' e => (by cases e), fun r e => ?_⟩
    cases e
    exact .inr ⟨rfl, hk, hanc, .inr ⟨hnm, hcan, rfl, fun q => k7 ⟨q.2, .inl q.1⟩⟩⟩
  rw [if_neg k9]
  refine ⟨fun s' e => ?_, fun r e => by cases e⟩
  cases e
  have hid : (T.at s.pos).find name ≠ 0 := fun e => k6 ⟨e, by omega⟩
  have he := find_ent hid
  have hh := ht.ents _ _ he
  refine ⟨hh, fun hk2 => ?_, fun e => absurd (show rest.length = 0 from by rw [show rest = [] from e]; rfl) k9, hne⟩
  have h1 : (T.at s.pos).find name ≠ 1 := fun e => by
    have := (links_pos hg.wf).2 ⟨_, he⟩
    rw [e, ht.top] at this
    exact absurd this (by decide)
  have hp := one_parent hg.wf (ht.dirs _ hk2 h1).1 he
  intro n hn
  cases n with
  | zero =>
    have : T.up (0 + 1) ((T.at s.pos).find name) = s.pos := hp
    rw [this]; exact hcan
  | succ n =>
    have : T.up (n + 1 + 1) ((T.at s.pos).find name) = T.up (n + 1) s.pos := by rw [Tab.up, hp]
    rw [this] at hn ⊢
    exact hanc n hn
theorem fits_small {T : Tab} {path : ByteArray} (h : T.fitsE path = 0) : path.size ≤ 64 ∧ path ≠ ⟨#[]⟩ := by
  unfold Tab.fitsE at h
  split at h
  · cases h
  · rename_i h1
    split at h
    · cases h
    · exact ⟨by omega, h1⟩
theorem start_m {T : Tab} {path : ByteArray} (h : T.fitsE path = 0) (p : Int) : RSt.m ⟨p, 0, splitOf path⟩ < 2000 := by
  have h1 := splitOf_len path
  have h2 := (fits_small h).1
  show (8 - 0) * 110 + (splitOf path).length < 2000
  omega
end Abs
end Go.Proofs.Ytpmnfbgnlanpoaa

set_option linter.unusedVariables false
namespace Go.Proofs.Ytpmnfbgnlanpoaa
namespace Abs
set_option maxRecDepth 10000
attribute [local irreducible] AOps AW ACalls thenQ inBlk noGoto
attribute [local irreducible] absOf endOf

/-! ### root, and who has the bits: the plain law -/
/-- Two tables that differ in modes alone; in the second one each directory lets who asks search it. -/
structure Open (T U : Tab) (c : Cred) : Prop where
  kind : ∀ i, (U.at i).kind = (T.at i).kind
  ents : ∀ i, (U.at i).ents = (T.at i).ents
  target : ∀ i, (U.at i).target = (T.at i).target
  parent : ∀ i, U.parent i = T.parent i
  can : ∀ i, (T.at i).kind = 2 → U.can c i 1 = true
theorem Open.has {T U : Tab} {c : Cred} (h : Open T U c) (i : Int) : U.has i = T.has i := by
  have h1 := has_kind' (T := U) (d := i)
  have h2 := has_kind' (T := T) (d := i)
  rw [h.kind] at h1
  cases hu : U.has i <;> cases ht : T.has i <;> simp_all
theorem Open.find {T U : Tab} {c : Cred} (h : Open T U c) (i : Int) (name : ByteArray) : (U.at i).find name = (T.at i).find name := by
  unfold Node.find Node.place
  rw [h.ents]
end Abs
end Go.Proofs.Ytpmnfbgnlanpoaa

set_option linter.unusedVariables false
set_option linter.unusedSimpArgs false
namespace Go.Proofs.Ytpmnfbgnlanpoaa
namespace Abs
set_option maxRecDepth 10000
attribute [local irreducible] AOps AW ACalls thenQ inBlk noGoto

/-! ### dots between names: the plain law -/
inductive Dots : List ByteArray → List ByteArray → Prop where
  | nil : Dots [] []
  | cons {l l' : List ByteArray} (x : ByteArray) : Dots l l' → Dots (x :: l) (x :: l')
  | dot {l l' : List ByteArray} (x : ByteArray) : Dots (x :: l) l' → Dots (x :: l) (dotS :: l')
theorem Dots.refl : ∀ l : List ByteArray, Dots l l
  | [] => .nil
  | x :: l => .cons x (Dots.refl l)
theorem Dots.len {l l' : List ByteArray} (h : Dots l l') : (l.length = 0 ↔ l'.length = 0) := by
  cases h <;> simp
def tailOf (r : List UInt8) : List ByteArray := if r.getLast? = some 47 then [dotS] else []
theorem endOf_last (s : ByteArray) : endOf s = decide ((byL s).getLast? = some 47) := by
  unfold endOf
  refine decide_eq_decide.2 ?_
  rw [List.getLast?_eq_getElem?, byL_len]
theorem splitOf_tail (s : ByteArray) : splitOf s = if (namesOf s).isEmpty = true then [] else namesOf s ++ tailOf (byL s) := by
  unfold splitOf tailOf
  rw [endOf_last]
  cases h : namesOf s with
  | nil => simp
  | cons a l =>
    by_cases e : (byL s).getLast? = some 47
    · rw [if_pos e, decide_eq_true e]; simp; rfl
    · rw [if_neg e, decide_eq_false e]; simp
end Abs
end Go.Proofs.Ytpmnfbgnlanpoaa

set_option linter.unusedVariables false
set_option linter.unusedSimpArgs false
namespace Go.Proofs.Ytpmnfbgnlanpoaa
namespace Abs
set_option maxRecDepth 10000
attribute [local irreducible] AOps AW ACalls thenQ inBlk noGoto
attribute [local irreducible] absOf

/-! ### a path in two parts: the plain law -/
theorem splitL_app : ∀ (p cur q : List UInt8), splitL cur (p ++ 47 :: q) = splitL cur p ++ splitL [] q
  | [], cur, q => by
    simp only [List.nil_append, splitL, if_true]
    split <;> simp
  | c :: p, cur, q => by
    have ih := fun cur => splitL_app p cur q
    simp only [List.cons_append, splitL]
    split
    · split
      · exact ih _
      · rw [ih]; rfl
    · exact ih _
theorem splitL_one : ∀ (n cur : List UInt8), (∀ x ∈ n, x ≠ 47) → splitL cur n = if cur ++ n = [] then [] else [cur ++ n]
  | [], cur, _ => by rw [List.append_nil]; rfl
  | c :: n, cur, h => by
    have h1 : c ≠ 47 := h c List.mem_cons_self
    simp only [splitL, if_neg h1]
    rw [splitL_one n _ (fun x hx => h x (List.mem_cons_of_mem _ hx)), List.append_assoc]
    rfl
theorem has_not {s : ByteArray} {b : UInt8} (h : hasB s b = false) : ∀ x ∈ byL s, x ≠ b := fun x hx e => by
  subst e
  have : hasB s x = true := List.contains_iff_mem.2 hx
  rw [h] at this; cases this
structure NameIs (s : ByteArray) : Prop where
  ne : s ≠ ⟨#[]⟩
  size : s.size ≤ 12
  dot : s ≠ dotS
  dots : s ≠ dotdotS
  slash : hasB s 47 = false
  nul : hasB s 0 = false
theorem name_is {s : ByteArray} (h : nameOk s = true) : NameIs s := by
  unfold nameOk at h
  simp only [Bool.and_eq_true, Bool.not_eq_true', decide_eq_false_iff_not, decide_eq_true_eq, Bool.or_eq_false_iff] at h
  obtain ⟨⟨⟨⟨h1, h2⟩, h3⟩, h4⟩, h5, h6⟩ := h
  exact ⟨h1, by omega, h3, h4, h5, h6⟩
theorem names_join {p s : ByteArray} (h : NameIs s) : namesOf (p ++ slashS ++ s) = namesOf p ++ [s] := by
  have hb : byL (p ++ slashS ++ s) = byL p ++ 47 :: byL s := by rw [app_byL, app_byL, List.append_assoc]; rfl
  have hs : byL s ≠ [] := fun e => h.ne (by rw [← ofL_byL s, e]; rfl)
  unfold namesOf
  rw [hb, splitL_app, splitL_one _ _ (has_not h.slash), List.nil_append, if_neg hs, List.map_append, List.map_singleton, ofL_byL]
theorem tail_none {s : ByteArray} (h : (byL s).getLast? ≠ some 47) : splitOf s = namesOf s := by
  rw [splitOf_tail, tailOf, if_neg h, List.append_nil]
  cases namesOf s <;> rfl
theorem split_join {p s : ByteArray} (hp : (byL p).getLast? ≠ some 47) (h : NameIs s) : splitOf (p ++ slashS ++ s) = splitOf p ++ [s] := by
  have hb : byL (p ++ slashS ++ s) = byL p ++ 47 :: byL s := by rw [app_byL, app_byL, List.append_assoc]; rfl
  have hs : byL s ≠ [] := fun e => h.ne (by rw [← ofL_byL s, e]; rfl)
  rw [tail_none hp, tail_none, names_join h]
  have hlast : (byL s).getLast? = some ((byL s).getLast hs) := List.getLast?_eq_some_getLast hs
  rw [hb, show byL p ++ 47 :: byL s = (byL p ++ [47]) ++ byL s by simp, List.getLast?_append, hlast]
  intro e
  have h2 : (byL s).getLast hs = 47 := by simpa using e
  exact has_not h.slash _ (List.getLast_mem hs) h2
theorem fits_join {T : Tab} {p s : ByteArray} (hp : p ≠ ⟨#[]⟩) (h40 : p.size ≤ 40) (h : NameIs s) : T.fitsE (p ++ slashS ++ s) = T.fitsE p := by
  have hsz : (p ++ slashS ++ s).size = p.size + 1 + s.size := by rw [ByteArray.size_append, ByteArray.size_append]; rfl
  have h12 := h.size
  have hne : p ++ slashS ++ s ≠ ⟨#[]⟩ := fun e => by rw [e] at hsz; have : (0 : Nat) = p.size + 1 + s.size := hsz; omega
  have h0 : hasB (p ++ slashS ++ s) 0 = hasB p 0 := by
    have h1 : hasB (p ++ slashS ++ s) 0 = (byL p ++ 47 :: byL s).contains 0 := by
      show (byL (p ++ slashS ++ s)).contains 0 = _
      rw [app_byL, app_byL, List.append_assoc]; rfl
    have h2 : (byL s).contains 0 = false := h.nul
    have h3 : hasB p 0 = (byL p).contains 0 := rfl
    rw [h1, h3]
    simp only [List.contains_append, List.contains_cons, h2]
    simp
  unfold Tab.fitsE
  rw [if_neg hne, if_neg hp, if_neg (show ¬ 64 < ((p ++ slashS ++ s).size : Int) by omega), if_neg (show ¬ 64 < (p.size : Int) by omega), h0]
def Tab.lastOf (T : Tab) (c : Cred) (name : ByteArray) (i : Int) : Found × Int :=
  if ¬ (T.at i).kind = 2 then (Found.zero, 20) else if T.can c i 1 = false then (Found.zero, 13) else (⟨i, name, (T.at i).find name⟩, 0)
theorem walk_last {T : Tab} {c : Cred} {name : ByteArray} (h : NameIs name) {f : Nat} {pos : Int} {links : Nat} : T.walk c false (f + 1) ⟨pos, links, [name]⟩ = T.lastOf c name pos := by
  have ht : T.take c false ⟨pos, links, [name]⟩ name [] = .inr (T.lastOf c name pos) := by
    unfold Tab.take Tab.lastOf
    by_cases k1 : ¬ (T.at pos).kind = 2
    · rw [if_pos k1, if_pos k1]
    rw [if_neg k1, if_neg k1]
    by_cases k2 : T.can c pos 1 = false
    · rw [if_pos k2, if_pos k2]
    have h12 := h.size
    rw [if_neg k2, if_neg k2, if_neg h.dot, if_neg h.dots, if_neg (show ¬ 12 < (name.size : Int) by omega), if_neg (fun q => absurd q.2 (Nat.lt_irrefl 0)), if_neg (fun q => by rcases q.2 with q | q; cases q; exact Nat.lt_irrefl 0 q), if_pos (show ([] : List ByteArray).length = 0 from rfl)]
  rw [walk_step (s := ⟨pos, links, [name]⟩) rfl, ht]
def PartsR (T : Tab) (c : Cred) (name : ByteArray) (r r' : Found × Int) : Prop :=
  (r.2 ≠ 0 → r' = (Found.zero, r.2)) ∧ (r.2 = 0 → r.1.node = 0 → r'.2 = 2) ∧ (r.2 = 0 → r.1.node ≠ 0 → r' = T.lastOf c name r.1.node)
theorem parts_fail {T : Tab} {c : Cred} {name : ByteArray} {e : Int} (h : e ≠ 0) : PartsR T c name (Found.zero, e) (Found.zero, e) := ⟨fun _ => rfl, fun q => absurd q h, fun q => absurd q h⟩
theorem walk_parts {T : Tab} (hg : T.good) (ht : T.tree) {c : Cred} {name : ByteArray} (hn : NameIs name) : ∀ (n : Nat) (pos : Int) (links : Nat) (l : List ByteArray) (f f' : Nat), Srch T c ⟨pos, links, l⟩ → links ≤ 8 → RSt.m ⟨pos, links, l⟩ < n → RSt.m ⟨pos, links, l⟩ < f → RSt.m ⟨pos, links, l ++ [name]⟩ < f' →
    PartsR T c name (T.walk c true f ⟨pos, links, l⟩) (T.walk c false f' ⟨pos, links, l ++ [name]⟩)
  | 0, _, _, _, _, _, _, _, h, _, _ => absurd h (Nat.not_lt_zero _)
  | n + 1, pos, links, l, f, f', hs, h8, hm, hf, hf' => by
    obtain ⟨f, rfl⟩ : ∃ g, f = g + 1 := ⟨f - 1, by omega⟩
    obtain ⟨f', rfl⟩ : ∃ g, f' = g + 1 := ⟨f' - 1, by omega⟩
    have hpos : ∀ {i : Int}, T.has i = true → i ≠ 0 := fun h e => by have := has_rng h; omega
    cases l with
    | nil =>
      rw [walk_end (s := ⟨pos, links, []⟩) rfl, List.nil_append, walk_last hn]
      exact ⟨fun q => absurd rfl q, fun _ q => absurd q (hpos hs.has), fun _ _ => rfl⟩
    | cons x l =>
      have hsr := take_srch (fo := true) hg ht hs (name := x) (rest := l) rfl
      have key : (∃ r r', T.take c true ⟨pos, links, x :: l⟩ x l = .inr r ∧ T.take c false ⟨pos, links, x :: l ++ [name]⟩ x (l ++ [name]) = .inr r' ∧ PartsR T c name r r') ∨
          (∃ p k a, T.take c true ⟨pos, links, x :: l⟩ x l = .inl ⟨p, k, a⟩ ∧ T.take c false ⟨pos, links, x :: l ++ [name]⟩ x (l ++ [name]) = .inl ⟨p, k, a ++ [name]⟩) ∨
          (∃ p r, T.take c true ⟨pos, links, x :: l⟩ x l = .inr (r, 0) ∧ r.node = p ∧ p ≠ 0 ∧ T.take c false ⟨pos, links, x :: l ++ [name]⟩ x (l ++ [name]) = .inl ⟨p, links, [name]⟩) := by
        unfold Tab.take
        simp only
        by_cases k1 : ¬ (T.at pos).kind = 2
        · rw [if_pos k1, if_pos k1]; exact .inl ⟨_, _, rfl, rfl, parts_fail (by decide)⟩
        rw [if_neg k1, if_neg k1]
        by_cases k2 : T.can c pos 1 = false
        · rw [if_pos k2, if_pos k2]; exact .inl ⟨_, _, rfl, rfl, parts_fail (by decide)⟩
        rw [if_neg k2, if_neg k2]
        by_cases k3 : x = dotS
        · rw [if_pos k3, if_pos k3]; exact .inr (.inl ⟨_, _, _, rfl, rfl⟩)
        rw [if_neg k3, if_neg k3]
        by_cases k4 : x = dotdotS
        · rw [if_pos k4, if_pos k4]; exact .inr (.inl ⟨_, _, _, rfl, rfl⟩)
        rw [if_neg k4, if_neg k4]
        by_cases k5 : 12 < (x.size : Int)
        · rw [if_pos k5, if_pos k5]; exact .inl ⟨_, _, rfl, rfl, parts_fail (by decide)⟩
        rw [if_neg k5, if_neg k5]
        have hl1 : 0 < (l ++ [name]).length := by rw [List.length_append]; exact Nat.lt_of_lt_of_le Nat.zero_lt_one (Nat.le_add_left _ _)
        have hl0 : ¬ (l ++ [name]).length = 0 := by omega
        by_cases k6 : (T.at pos).find x = 0
        · rw [if_pos (show (T.at pos).find x = 0 ∧ 0 < (l ++ [name]).length from ⟨k6, hl1⟩)]
          by_cases k7 : 0 < l.length
          · rw [if_pos ⟨k6, k7⟩]; exact .inl ⟨_, _, rfl, rfl, parts_fail (by decide)⟩
          · have hz : T.at 0 = Node.zero := at_none (by cases hh : T.has 0 with | false => rfl | true => have := has_rng hh; omega)
            have hl : l.length = 0 := by omega
            rw [if_neg (fun q => k7 q.2), k6, hz, if_neg (fun q => by cases q.1), if_pos hl]
            exact .inl ⟨_, _, rfl, rfl, fun q => absurd rfl q, fun _ _ => rfl, fun _ q => absurd rfl q⟩
        rw [if_neg (show ¬ ((T.at pos).find x = 0 ∧ 0 < l.length) from fun q => k6 q.1), if_neg (show ¬ ((T.at pos).find x = 0 ∧ 0 < (l ++ [name]).length) from fun q => k6 q.1)]
        by_cases k8 : (T.at ((T.at pos).find x)).kind = 3
        · rw [if_pos (show (T.at ((T.at pos).find x)).kind = 3 ∧ (True ∨ 0 < l.length) from ⟨k8, .inl trivial⟩), if_pos (show (T.at ((T.at pos).find x)).kind = 3 ∧ (false = true ∨ 0 < (l ++ [name]).length) from ⟨k8, .inr hl1⟩)]
          by_cases k9 : links = 8
          · rw [if_pos k9, if_pos k9]; exact .inl ⟨_, _, rfl, rfl, parts_fail (by decide)⟩
          · rw [if_neg k9, if_neg k9, ← List.append_assoc]; exact .inr (.inl ⟨_, _, _, rfl, rfl⟩)
        rw [if_neg (show ¬ ((T.at ((T.at pos).find x)).kind = 3 ∧ (True ∨ 0 < l.length)) from fun q => k8 q.1), if_neg (show ¬ ((T.at ((T.at pos).find x)).kind = 3 ∧ (false = true ∨ 0 < (l ++ [name]).length)) from fun q => k8 q.1), if_neg hl0]
        by_cases k10 : l.length = 0
        · rw [if_pos k10]
          have : l = [] := List.length_eq_zero_iff.1 k10
          subst this
          exact .inr (.inr ⟨_, _, rfl, rfl, k6, rfl⟩)
        · rw [if_neg k10]; exact .inr (.inl ⟨_, _, _, rfl, rfl⟩)
      rw [walk_step (s := ⟨pos, links, x :: l⟩) rfl, walk_step (s := ⟨pos, links, x :: l ++ [name]⟩) (name := x) (rest := l ++ [name]) rfl]
      rcases key with ⟨r, r', e1, e2, h⟩ | ⟨p, k, a, e1, e2⟩ | ⟨p, r, e1, e3, e4, e2⟩
      · rw [e1, e2]; exact h
      · obtain ⟨m1, m2⟩ := take_m hg h8 rfl e1
        obtain ⟨m3, m4⟩ := take_m hg h8 rfl e2
        have hs' := hsr.1 _ e1
        rw [e1, e2]
        exact walk_parts hg ht hn n p k a f f' hs' m2 (by omega) (by omega) (by omega)
      · obtain ⟨m3, m4⟩ := take_m hg h8 rfl e2
        rw [e1, e2]
        have hm1 : 1 ≤ RSt.m ⟨p, links, [name]⟩ := Nat.le_add_left _ _
        obtain ⟨f', rfl⟩ : ∃ g, f' = g + 1 := ⟨f' - 1, by omega⟩
        simp only
        rw [walk_last hn]
        exact ⟨fun q => absurd rfl q, fun _ q => absurd (e3 ▸ q) e4, fun _ _ => by rw [e3]⟩
theorem join_eq {p s : ByteArray} (hp : p ≠ ⟨#[]⟩) (hl : (byL p).getLast? ≠ some 47) : joinOf p s = p ++ slashS ++ s := by
  unfold joinOf
  rw [endOf_last, decide_eq_false hp, decide_eq_false hl]
  rfl
theorem resolve_parts {T : Tab} (hg : T.good) (ht : T.tree) {c : Cred} {p s : ByteArray} (hp : p ≠ ⟨#[]⟩) (h40 : p.size ≤ 40) (hl : (byL p).getLast? ≠ some 47) (hn : nameOk s = true) : PartsR T c s (T.resolve c p true) (T.resolve c (joinOf p s) false) := by
  have hi := name_is hn
  rw [join_eq hp hl]
  unfold Tab.resolve
  rw [fits_join hp h40 hi, split_join hl hi]
  split
  · rename_i h
    have m1 := start_m h 1
    have hf2 : T.fitsE (p ++ slashS ++ s) = 0 := by rw [fits_join hp h40 hi]; exact h
    have m2 := start_m hf2 1
    rw [split_join hl hi] at m2
    exact walk_parts hg ht hi 2000 1 0 _ 2000 2000 ⟨has_kind'.2 (by rw [ht.root]; decide), fun _ => anc1 hg ht c, fun _ => ht.root, fun x hx => splitOf_ne _ x hx⟩ (Nat.zero_le _) m1 m1 m2
  · rename_i h; exact parts_fail h
end Abs
end Go.Proofs.Ytpmnfbgnlanpoaa
