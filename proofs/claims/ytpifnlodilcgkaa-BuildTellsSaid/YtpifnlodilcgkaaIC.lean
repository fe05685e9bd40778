import Derived.Test.YtpifnlodilcgkaaZ1
import Derived.Test.YtpifnlodilcgkaaM7
set_option linter.unusedVariables false
namespace Go.Proofs.Ytpifnlodilcgkaa
namespace Abs
set_option maxRecDepth 10000
attribute [local irreducible] AOps AW ACalls thenQ inBlk noGoto

/-! ### what builds a tree: the plain law -/
def Tab.rawOf (T : Tab) (i parent : Int) (name : ByteArray) : Raw := ⟨(T.at i).kind, (T.at i).mode, (T.at i).uid, (T.at i).gid, parent, name, (T.at i).data, (T.at i).target, 0⟩
def againR (parent : Int) (name : ByteArray) (node : Int) : Raw := ⟨4, 0, 0, 0, parent, name, ⟨#[]⟩, ⟨#[]⟩, node⟩
def placeI (l : List Int) (i : Int) : Option Nat := l.findIdx? (fun x => decide (x = i))
theorem placeI_none {l : List Int} {i : Int} : placeI l i = none ↔ i ∉ l := by
  unfold placeI
  rw [List.findIdx?_eq_none_iff]
  exact ⟨fun h hi => by have := h i hi; simp at this, fun h x hx => by simp only [decide_eq_false_iff_not]; exact fun e => h (e ▸ hx)⟩
theorem placeI_some {l : List Int} {i : Int} {k : Nat} (hk : k < l.length) (h : l[k] = i) (hf : ∀ j, (hj : j < l.length) → j < k → l[j] ≠ i) : placeI l i = some k := by
  unfold placeI
  rw [List.findIdx?_eq_some_iff_getElem]
  exact ⟨hk, by simpa using h, fun j hj => by simpa using hf j (by omega) hj⟩
/-- One entry of what is told: the numbers so far, and what is told so far. -/
def Tab.tellE (T : Tab) (k : Nat) (s : List Int × List Raw) (e : Ent) : List Int × List Raw :=
  match placeI s.1 e.node with
  | some j => (s.1, s.2 ++ [againR ((k : Int) + 1) e.name ((j : Int) + 1)])
  | none => (s.1 ++ [e.node], s.2 ++ [T.rawOf e.node ((k : Int) + 1) e.name])
def Tab.tellN (T : Tab) (k : Nat) (s : List Int × List Raw) (l : List Ent) : List Int × List Raw := l.foldl (T.tellE k) s
def Tab.tellL (T : Tab) : Nat → Nat → List Int × List Raw → List Int × List Raw
  | 0, _, s => s
  | f + 1, k, s => match s.1[k]? with
    | none => s
    | some d => T.tellL f (k + 1) (T.tellN k s (T.at d).ents)
def Tab.tell0 (T : Tab) : List Int × List Raw := ([1], [T.rawOf 1 0 ⟨#[]⟩])
def Tab.tell (T : Tab) : List Raw := if T.right [] = true then (T.tellL 24 0 T.tell0).2 else []
theorem tellL_end {T : Tab} {f k : Nat} {s : List Int × List Raw} (h : s.1.length ≤ k) : T.tellL f k s = s := by
  cases f with
  | zero => rfl
  | succ f => rw [Tab.tellL, List.getElem?_eq_none h]
theorem tellL_step {T : Tab} {f k : Nat} {s : List Int × List Raw} (h : k < s.1.length) : T.tellL (f + 1) k s = T.tellL f (k + 1) (T.tellN k s (T.at s.1[k]).ents) := by
  rw [Tab.tellL, List.getElem?_eq_getElem h]
theorem tellE_len (T : Tab) (k : Nat) (s : List Int × List Raw) (e : Ent) : (T.tellE k s e).2.length = s.2.length + 1 := by
  unfold Tab.tellE
  split <;> simp
/-- What is told of are nodes, each once. -/
structure TI (T : Tab) (s : List Int × List Raw) : Prop where
  nodup : s.1.Nodup
  has : ∀ i ∈ s.1, T.has i = true
theorem TI.first {T : Tab} (h : T.tree) : TI T T.tell0 := ⟨by simp [Tab.tell0], fun i hi => by
  have : i = 1 := by simpa [Tab.tell0] using hi
  subst this
  exact has_kind'.2 (by rw [h.root]; decide)⟩
theorem TI.step {T : Tab} {s : List Int × List Raw} (h : TI T s) (k : Nat) {e : Ent} (he : T.has e.node = true) : TI T (T.tellE k s e) := by
  unfold Tab.tellE
  cases hp : placeI s.1 e.node with
  | some j => exact ⟨h.nodup, h.has⟩
  | none =>
    have hn := placeI_none.1 hp
    refine ⟨?_, fun i hi => ?_⟩
    · show (s.1 ++ [e.node]).Nodup
      rw [List.nodup_append]
      exact ⟨h.nodup, by simp, fun a ha b hb e2 => hn (by have := List.mem_singleton.1 hb; subst this; exact e2 ▸ ha)⟩
    · rcases List.mem_append.1 hi with hi | hi
      · exact h.has i hi
      · rw [List.mem_singleton.1 hi]; exact he
theorem phpI : ∀ (n : Nat) (l : List Int), l.Nodup → (∀ x ∈ l, 1 ≤ x ∧ x ≤ n) → l.length ≤ n
  | 0, l, _, h => by
    cases l with
    | nil => exact Nat.le_refl _
    | cons a l => have := h a List.mem_cons_self; omega
  | n + 1, l, hn, h => by
    by_cases hm : ((n : Int) + 1) ∈ l
    · have h1 := phpI n (l.erase ((n : Int) + 1)) (hn.erase _) (fun x hx => by
        have h2 := (hn.mem_erase_iff).1 hx
        have h3 := h x h2.2
        have h4 := h2.1
        omega)
      rw [List.length_erase_of_mem hm] at h1
      omega
    · have h1 := phpI n l hn (fun x hx => by
        have h3 := h x hx
        have h4 : x ≠ (n : Int) + 1 := fun e => hm (e ▸ hx)
        omega)
      omega
theorem TI.le {T : Tab} (hg : T.good) {s : List Int × List Raw} (h : TI T s) : s.1.length ≤ 24 := phpI 24 s.1 h.nodup fun x hx => by
  have h1 := has_rng (h.has x hx)
  have h2 := hg.wf.2.1
  omega
theorem rising_at {T : Tab} (hg : T.good) (d : Int) : rising (T.at d).ents = true := by
  rcases at_zero_ok hg d with z | z
  · rw [z]; rfl
  · by_cases hk : (T.at d).kind = 2
    · exact ((dirOk_iff hk).1 z).2.2.2
    · rw [nodir_ents0 z hk]; rfl
theorem TI.fold {T : Tab} (k : Nat) : ∀ {l : List Ent} {s : List Int × List Raw}, TI T s → (∀ e ∈ l, T.has e.node = true) → TI T (T.tellN k s l)
  | [], s, h, _ => h
  | e :: l, s, h, he => TI.fold (l := l) (s := T.tellE k s e) k (h.step k (he e List.mem_cons_self)) (fun x hx => he x (List.mem_cons_of_mem _ hx))
theorem tellN_len {T : Tab} (k : Nat) : ∀ {l : List Ent} {s : List Int × List Raw}, (T.tellN k s l).2.length = s.2.length + l.length
  | [], s => rfl
  | e :: l, s => by
    show (T.tellN k (T.tellE k s e) l).2.length = _
    rw [tellN_len k, tellE_len, List.length_cons]; omega
theorem tellN_take {T : Tab} {k : Nat} {l : List Ent} {s : List Int × List Raw} {j : Nat} (hj : j < l.length) : T.tellN k s (l.take (j + 1)) = T.tellE k (T.tellN k s (l.take j)) l[j] := by
  unfold Tab.tellN
  rw [List.take_add_one, List.getElem?_eq_getElem hj, Option.toList_some, List.foldl_append]
  rfl
end Abs
end Go.Proofs.Ytpifnlodilcgkaa
