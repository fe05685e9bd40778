import Derived.Test.YtmokoofibnoojaaM1
import Derived.Test.YtmokoofibnoojaaN1
set_option linter.unusedVariables false
namespace Go.Proofs.Ytmokoofibnoojaa
namespace Abs

/-! ### entries that may be: the plain law -/
def entOk (e : Ent) : Prop := nameOk e.name = true ∧ 1 ≤ e.node
def ltE (a b : Ent) : Prop := tl a.name < tl b.name
theorem ltE_trans {a b c : Ent} (h : ltE a b) (k : ltE b c) : ltE a c := List.lt_trans h k
theorem risingFrom_iff : ∀ (l : List Ent) (p : Option ByteArray), risingFrom p l = true ↔ (∀ e ∈ l, entOk e) ∧ l.Pairwise ltE ∧ ∀ q, p = some q → ∀ e ∈ l, tl q < tl e.name
  | [], p => by simp [risingFrom]
  | e :: l, p => by
    have ih := risingFrom_iff l (some e.name)
    simp only [risingFrom, Bool.and_eq_true, decide_eq_true_eq, ih]
    constructor
    · rintro ⟨⟨⟨h1, h2⟩, h30⟩, h4, h5, h6⟩
      have h3 : ∀ q, p = some q → tl q < tl e.name := fun q hq => by subst hq; simpa [bless] using h30
      refine ⟨fun x hx => ?_, ?_, fun q hq x hx => ?_⟩
      · rcases List.mem_cons.1 hx with rfl | hx
        · exact ⟨h1, h2⟩
        · exact h4 x hx
      · rw [List.pairwise_cons]
        exact ⟨fun x hx => h6 _ rfl x hx, h5⟩
      · rcases List.mem_cons.1 hx with rfl | hx
        · exact h3 q hq
        · exact List.lt_trans (h3 q hq) (h6 _ rfl x hx)
    · rintro ⟨h1, h2, h3⟩
      rw [List.pairwise_cons] at h2
      refine ⟨⟨⟨(h1 e List.mem_cons_self).1, (h1 e List.mem_cons_self).2⟩, (by
        cases p with
        | none => rfl
        | some q => have := h3 q rfl e List.mem_cons_self; simpa [bless] using this)⟩, fun x hx => h1 x (List.mem_cons_of_mem _ hx), h2.2, fun q hq x hx => ?_⟩
      cases hq
      exact h2.1 x hx
theorem rising_iff (l : List Ent) : rising l = true ↔ (∀ e ∈ l, entOk e) ∧ l.Pairwise ltE ∧ l.length ≤ 8 := by
  unfold rising
  rw [Bool.and_eq_true, risingFrom_iff, decide_eq_true_eq]
  constructor
  · rintro ⟨⟨h1, h2, _⟩, h3⟩; exact ⟨h1, h2, by omega⟩
  · rintro ⟨h1, h2, h3⟩; exact ⟨⟨h1, h2, (by intro q hq; cases hq)⟩, by omega⟩
theorem insE_mem (new : Ent) : ∀ (l : List Ent) (x : Ent), x ∈ insE new l ↔ x = new ∨ x ∈ l
  | [], x => by simp [insE]
  | e :: l, x => by
    rw [insE]
    split
    · simp
    · rw [List.mem_cons, insE_mem new l, List.mem_cons]
      constructor
      · rintro (h | h | h)
        · exact .inr (.inl h)
        · exact .inl h
        · exact .inr (.inr h)
      · rintro (h | h | h)
        · exact .inr (.inl h)
        · exact .inl h
        · exact .inr (.inr h)
theorem lt_of_not {a b : ByteArray} (h : ¬ tl a < tl b) (hne : b ≠ a) : tl b < tl a := by
  rcases Decidable.em (tl b < tl a) with k | k
  · exact k
  · exact absurd (tl_inj (List.le_antisymm (List.not_lt.1 h) (List.not_lt.1 k))) hne
theorem insE_sorted (new : Ent) : ∀ {l : List Ent}, l.Pairwise ltE → (∀ e ∈ l, e.name ≠ new.name) → (insE new l).Pairwise ltE
  | [], _, _ => by simp [insE]
  | e :: l, h, hne => by
    rw [List.pairwise_cons] at h
    rw [insE]
    split
    · rename_i hx
      rw [List.pairwise_cons, List.pairwise_cons]
      refine ⟨fun y hy => ?_, h⟩
      rcases List.mem_cons.1 hy with rfl | hy
      · exact hx
      · exact ltE_trans (b := e) hx (h.1 y hy)
    · rename_i hx
      rw [List.pairwise_cons]
      refine ⟨fun y hy => ?_, insE_sorted new h.2 (fun x hx => hne x (List.mem_cons_of_mem _ hx))⟩
      rcases (insE_mem new l y).1 hy with rfl | hy
      · exact lt_of_not hx (hne e List.mem_cons_self)
      · exact h.1 y hy
theorem insE_len (new : Ent) : ∀ l : List Ent, (insE new l).length = l.length + 1
  | [] => rfl
  | e :: l => by
    rw [insE]
    split
    · rfl
    · simp [insE_len new l]
theorem withN_ents {n : Node} {name : ByteArray} {id : Int} (h : n.withE name id = 0) : n.withN name id = { n with ents := insE ⟨name, id⟩ n.ents } := by
  rw [Node.withN, if_pos h, insE_cut]; rfl
/-- Where a list of names that differ has one. -/
theorem find_uniq {l : List Ent} {name : ByteArray} {k : Nat} (hk : k < l.length) (he : l[k].name = name) (hu : l.Pairwise ltE) : l.findIdx? (fun e => decide (e.name = name)) = some k := by
  rw [List.findIdx?_eq_some_iff_getElem]
  refine ⟨hk, by simpa using he, fun j hj => ?_⟩
  have := (List.pairwise_iff_getElem.1 hu) j k (by omega) hk hj
  simp only [decide_eq_true_eq]
  intro e
  unfold ltE at this
  rw [e, he] at this
  exact List.lt_irrefl _ this
theorem insE_at (new : Ent) : ∀ l : List Ent, ∃ k, ∃ hk : k < (insE new l).length, (insE new l)[k] = new ∧ (insE new l).take k ++ (insE new l).drop (k + 1) = l
  | [] => ⟨0, by simp [insE], by simp [insE], by simp [insE]⟩
  | e :: l => by
    by_cases h : tl new.name < tl e.name
    · refine ⟨0, by rw [insE, if_pos h]; simp, by simp [insE, h], by simp [insE, h]⟩
    · obtain ⟨k, hk, h1, h2⟩ := insE_at new l
      refine ⟨k + 1, by rw [insE, if_neg h]; simp; exact hk, by simp [insE, h, h1], ?_⟩
      simp only [insE, if_neg h, List.take_succ_cons, List.drop_succ_cons, List.cons_append, h2]
end Abs
end Go.Proofs.Ytmokoofibnoojaa
