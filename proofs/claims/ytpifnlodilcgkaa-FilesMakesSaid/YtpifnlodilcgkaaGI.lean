import Derived.Test.YtpifnlodilcgkaaGF
import Derived.Test.YtpifnlodilcgkaaGB
import Derived.Test.YtpifnlodilcgkaaM7
import Derived.Test.YtpifnlodilcgkaaZ3
set_option linter.unusedVariables false
namespace Go.Proofs.Ytpifnlodilcgkaa
namespace Abs
set_option maxRecDepth 10000
attribute [local irreducible] AOps AW ACalls thenQ inBlk noGoto

/-! ### entries that are cut and moved: plain law -/
def Node.rid (n : Node) (name : ByteArray) : Node := { n with ents := n.ents.filter fun e => !decide (e.name = name) }
theorem find_of_mem {n : Node} (hr : rising n.ents = true) {e : Ent} (he : e ∈ n.ents) : n.find e.name = e.node := by
  obtain ⟨k, hk, rfl⟩ := List.mem_iff_getElem.1 he
  exact find_at hr hk
theorem find_has {n : Node} {name : ByteArray} (h : n.find name ≠ 0) : ∃ e ∈ n.ents, e.name = name ∧ e.node = n.find name := by
  unfold Node.find at h ⊢
  cases hp : n.place name with
  | none => rw [hp] at h; exact absurd rfl h
  | some k =>
    obtain ⟨h1, h2⟩ := place_lt hp
    exact ⟨n.ents[k], List.getElem_mem h1, h2, by simp only [List.getD_eq_getElem?_getD, List.getElem?_eq_getElem h1, Option.getD_some]⟩
theorem find_zero {n : Node} (hr : rising n.ents = true) {name : ByteArray} : n.find name = 0 ↔ ∀ e ∈ n.ents, e.name ≠ name := by
  constructor
  · intro h e he hn
    have h1 := find_of_mem hr he
    have h2 := (((rising_iff _).1 hr).1 e he).2
    rw [hn, h] at h1; omega
  · intro h
    by_cases hz : n.find name = 0
    · exact hz
    · obtain ⟨e, he, hn, _⟩ := find_has hz
      exact absurd hn (h e he)
theorem dir_rising {T : Tab} (hg : T.good) {i : Int} (hk : (T.at i).kind = 2) : T.has i = true ∧ nodeOk (T.at i) = true ∧ rising (T.at i).ents = true := by
  have hh : T.has i = true := has_kind'.2 (by rw [hk]; decide)
  rcases at_zero_ok hg i with z | z
  · rw [z] at hk; cases hk
  · exact ⟨hh, z, ((dirOk_iff hk).1 z).2.2.2⟩
/-! ### names that are found may be names -/
/-! ### what may be taken -/
structure TakeAt (T : Tab) (f : Found) : Prop where
  kind : (T.at f.dir).kind = 2
  wo : (T.at f.dir).withoutE f.name = 0
  find : (T.at f.dir).find f.name = f.node
  node : f.node ≠ 0
  has : T.has f.node = true
  ent : T.ent f.dir f.node
end Abs
end Go.Proofs.Ytpifnlodilcgkaa

set_option linter.unusedVariables false
namespace Go.Proofs.Ytpifnlodilcgkaa
namespace Abs
set_option maxRecDepth 10000
attribute [local irreducible] AOps AW ACalls thenQ inBlk noGoto

/-! ### an entry that is moved: plain law -/
structure MoveF (T : Tab) (c : Cred) (p q : Found) : Prop where
  pat : TakeAt T p
  qdir : (T.at q.dir).kind = 2
  qname : nameOk q.name = true
  qat : q.node ≠ 0 → TakeAt T q
  qnone : q.node = 0 → (T.at q.dir).find q.name = 0
  ne : q.node ≠ p.node
  nb : (T.at p.node).kind = 2 → T.below 24 q.dir p.node = false
  room : q.node = 0 → q.dir ≠ p.dir → (T.at q.dir).ents.length < 8
  over : q.node ≠ 0 → T.overE c p q = 0
  pmay : T.mayTake c p = true
  qcan : T.can c q.dir 3 = true
def Tab.two (T : Tab) (p q : Found) : Tab := if q.node = 0 then T.cut p.dir p.name else (T.cut p.dir p.name).cut q.dir q.name
structure TwoF (T : Tab) (p q : Found) (B : Tab) : Prop where
  good : B.good
  room : B.room = T.room
  same : ∀ i, ∃ l, B.at i = { T.at i with ents := l }
  mem : ∀ i e, e ∈ (B.at i).ents ↔ e ∈ (T.at i).ents ∧ ¬ (i = p.dir ∧ e.name = p.name) ∧ ¬ (q.node ≠ 0 ∧ i = q.dir ∧ e.name = q.name)
  withE : (B.at q.dir).withE q.name p.node = 0
end Abs
end Go.Proofs.Ytpifnlodilcgkaa

set_option linter.unusedVariables false
namespace Go.Proofs.Ytpifnlodilcgkaa
namespace Abs
set_option maxRecDepth 10000
attribute [local irreducible] AOps AW ACalls thenQ inBlk noGoto

/-! ### trees that stay trees: plain law -/
theorem php : ∀ (n : Nat) (l : List Nat), l.Nodup → (∀ x ∈ l, x < n) → l.length ≤ n
  | 0, l, _, h => by
    cases l with
    | nil => exact Nat.le_refl _
    | cons a l => exact absurd (h a List.mem_cons_self) (Nat.not_lt_zero _)
  | n + 1, l, hn, h => by
    by_cases hm : n ∈ l
    · have h1 := php n (l.erase n) (hn.erase n) (fun x hx => by
        have h2 := (hn.mem_erase_iff).1 hx
        have h3 := h x h2.2
        have h4 := h2.1
        omega)
      rw [List.length_erase_of_mem hm] at h1
      omega
    · have h1 := php n l hn (fun x hx => by
        have h3 := h x hx
        have h4 : x ≠ n := fun e => hm (e ▸ hx)
        omega)
      omega
theorem parent00 {U : Tab} (hg : U.good) : U.parent 0 = 0 := by
  refine parent_none hg.wf ?_
  by_cases z : U.links 0 = 0
  · exact z
  · exfalso
    have hp : 0 < U.links 0 := by have := links_nonneg U 0; omega
    obtain ⟨d, e, he, hn⟩ := (links_pos hg.wf).1 hp
    rcases at_zero_ok hg d with q | q
    · rw [q] at he; cases he
    · by_cases hk : (U.at d).kind = 2
      · have := (((rising_iff _).1 (dir_rising hg hk).2.2).1 e he).2
        omega
      · rw [nodir_ents0 q hk] at he; cases he
theorem up00 {U : Tab} (hg : U.good) : ∀ n : Nat, U.up n 0 = 0
  | 0 => rfl
  | n + 1 => by rw [Tab.up, parent00 hg]; exact up00 hg n
theorem rooted_up' {U : Tab} : ∀ (k n : Nat) (i : Int), k < n → U.up k i = 1 → U.rooted n i = true
  | k, 0, i, h, _ => absurd h (Nat.not_lt_zero _)
  | 0, n + 1, i, _, h => by
    have : i = 1 := h
    simp only [Tab.rooted]; rw [if_pos this]
  | k + 1, n + 1, i, h, h1 => by
    simp only [Tab.rooted]
    split
    · rfl
    · exact rooted_up' k n _ (by omega) h1
theorem up_rooted {U : Tab} (hg : U.good) {i : Int} (hi : U.has i = true) (h : ∃ k, U.up k i = 1) : U.rooted 24 i = true := by
  obtain ⟨k, hk, hmin⟩ : ∃ k, U.up k i = 1 ∧ ∀ j, j < k → U.up j i ≠ 1 := by
    obtain ⟨k, hk⟩ := h
    induction k using Nat.strongRecOn with
    | ind k ih =>
      by_cases q : ∃ j, j < k ∧ U.up j i = 1
      · obtain ⟨j, hj, hj1⟩ := q
        exact ih j hj hj1
      · exact ⟨k, hk, fun j hj e => q ⟨j, hj, e⟩⟩
  refine rooted_up' k 24 i ?_ hk
  have h0 : ∀ j, j ≤ k → U.up j i ≠ 0 := fun j hj e => by
    have h1 := up_add U (k - j) j i
    rw [e, up00 hg, show k - j + j = k by omega, hk] at h1
    exact absurd h1 (by decide)
  have hhas : ∀ j, j ≤ k → U.has (U.up j i) = true := fun j hj => by
    cases j with
    | zero => exact hi
    | succ j =>
      have h2 := h0 (j + 1) hj
      rw [up_succ] at h2 ⊢
      exact ent_has (parent_ent h2)
  have hrng : ∀ j, j ≤ k → 1 ≤ U.up j i ∧ U.up j i ≤ 24 := fun j hj => by
    have h1 := has_rng (hhas j hj)
    have h2 := hg.wf.2.1
    omega
  have hinj : ∀ a b, a < b → b ≤ k → U.up a i ≠ U.up b i := fun a b hab hb e => by
    have h1 := up_add U (k - b) b i
    have h2 := up_add U (k - b) a i
    rw [show k - b + b = k by omega, hk] at h1
    rw [e, ← h1] at h2
    exact hmin (k - b + a) (by omega) h2
  have hl := php 24 ((List.range (k + 1)).map fun j => (U.up j i).toNat - 1) ?_ (fun x hx => ?_)
  · rw [List.length_map, List.length_range] at hl; omega
  · show List.Pairwise _ _
    rw [List.pairwise_map]
    refine List.pairwise_lt_range.imp_of_mem (fun {a b} ha hb hab e => ?_)
    rw [List.mem_range] at ha hb
    have h1 := hrng a (by omega)
    have h2 := hrng b (by omega)
    exact hinj a b hab (by omega) (by omega)
  · obtain ⟨j, hj, rfl⟩ := List.mem_map.1 hx
    rw [List.mem_range] at hj
    have h1 := hrng j (by omega)
    omega
theorem tree_up {T : Tab} (ht : T.tree) {i : Int} (hk : (T.at i).kind = 2) : ∃ k, T.up k i = 1 := by
  by_cases h : i = 1
  · exact ⟨0, h⟩
  · obtain ⟨k, _, h1⟩ := rooted_up 24 i (ht.dirs i hk h).2
    exact ⟨k, h1⟩
theorem tree_par {T : Tab} (hg : T.good) (ht : T.tree) {i : Int} (hk : (T.at i).kind = 2) (h1 : i ≠ 1) : T.ent (T.parent i) i ∧ (T.at (T.parent i)).kind = 2 := by
  have hl := (ht.dirs i hk h1).1
  obtain ⟨d, hd⟩ := (links_pos hg.wf).1 (show 0 < T.links i by omega)
  rw [one_parent hg.wf hl hd]
  exact ⟨hd, dir_of_ent hg hd⟩
theorem ups_keep {T U : Tab} (hg : T.good) (ht : T.tree) (X : Int → Prop) (hX : ∀ i, (T.at i).kind = 2 → ¬ X i → i ≠ 1 → ¬ X (T.parent i) ∧ U.parent i = T.parent i) :
    ∀ (k : Nat) (i : Int), (T.at i).kind = 2 → ¬ X i → T.up k i = 1 → ∃ k', U.up k' i = 1
  | 0, i, _, _, h => ⟨0, h⟩
  | k + 1, i, hk, hx, h => by
    by_cases h1 : i = 1
    · exact ⟨0, h1⟩
    · obtain ⟨a1, a2⟩ := hX i hk hx h1
      obtain ⟨b1, b2⟩ := tree_par hg ht hk h1
      obtain ⟨k', hk'⟩ := ups_keep hg ht X hX k _ b2 a1 h
      exact ⟨k' + 1, by rw [Tab.up, a2]; exact hk'⟩
theorem b2i_has {T : Tab} {i : Int} (h : T.has i = true) : b2i (T.has (((i - 1).toNat : Nat) + 1)) = 1 := by
  have hr := has_rng h
  rw [show (((i - 1).toNat : Nat) : Int) + 1 = i by omega, h]; rfl
theorem used_same {T : Tab} (hg : T.good) {i : Int} (h : T.has i = true) {n : Node} (hk : n.kind ≠ 0) : (T.put (i - 1).toNat n).used = T.used := by
  have hr := has_rng h
  have h1 := used_put hg.wf (k := (i - 1).toNat) (by omega) n
  rw [b2i_has h, decide_eq_false hk] at h1
  rw [h1]; show T.used + (1 - 1) = T.used; omega
/-- What is taken away. -/
structure Gone (T U : Tab) (f : Found) : Prop where
  good : U.good
  room : U.room = T.room
  at_ : ∀ i, U.at i = if i = f.node ∧ T.links f.node = 1 then Node.zero else if i = f.dir then (T.at f.dir).rid f.name else T.at i
  links : ∀ i, U.links i = T.links i - if i = f.node then 1 else 0
  used : U.used = T.used - if T.links f.node = 1 then 1 else 0
  tree : U.tree
end Abs
end Go.Proofs.Ytpifnlodilcgkaa

set_option linter.unusedVariables false
namespace Go.Proofs.Ytpifnlodilcgkaa
namespace Abs
set_option maxRecDepth 10000
attribute [local irreducible] AOps AW ACalls thenQ inBlk noGoto

/-! ### what is moved: plain law -/
structure MovedTo (T U : Tab) (p q : Found) : Prop where
  good : U.good
  room : U.room = T.room
  gone : q.node ≠ 0 ∧ T.links q.node = 1 → U.at q.node = Node.zero
  same : ∀ i, ¬ (i = q.node ∧ q.node ≠ 0 ∧ T.links q.node = 1) → ∃ l, U.at i = { T.at i with ents := l }
  mem : ∀ i e, e ∈ (U.at i).ents ↔ ((i = q.dir ∧ e = ⟨q.name, p.node⟩) ∨ (e ∈ (T.at i).ents ∧ ¬ (i = p.dir ∧ e.name = p.name) ∧ ¬ (q.node ≠ 0 ∧ i = q.dir ∧ e.name = q.name)))
  links : ∀ i, U.links i = T.links i - if q.node ≠ 0 ∧ i = q.node then 1 else 0
  used : U.used = T.used - if q.node ≠ 0 ∧ T.links q.node = 1 then 1 else 0
  tree : U.tree
def Tab.wT (T : Tab) (p q : Found) : Tab := (T.two p q).put (q.dir - 1).toNat (((T.two p q).at q.dir).withN q.name p.node)
structure WT (T : Tab) (p q : Found) : Prop where
  good : (T.wT p q).good
  room : (T.wT p q).room = T.room
  same : ∀ i, ∃ l, (T.wT p q).at i = { T.at i with ents := l }
  mem : ∀ i e, e ∈ ((T.wT p q).at i).ents ↔ ((i = q.dir ∧ e = ⟨q.name, p.node⟩) ∨ (e ∈ (T.at i).ents ∧ ¬ (i = p.dir ∧ e.name = p.name) ∧ ¬ (q.node ≠ 0 ∧ i = q.dir ∧ e.name = q.name)))
  links : ∀ i, (T.wT p q).links i = T.links i - if q.node ≠ 0 ∧ i = q.node then 1 else 0
  used : (T.wT p q).used = T.used
  eq : (T.two p q).putE q.dir (((T.two p q).at q.dir).withN q.name p.node) = (T.wT p q, 0)
end Abs
end Go.Proofs.Ytpifnlodilcgkaa
