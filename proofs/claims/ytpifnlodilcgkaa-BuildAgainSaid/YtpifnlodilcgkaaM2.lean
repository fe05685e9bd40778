import Derived.Test.YtpifnlodilcgkaaV1
import Derived.Test.YtpifnlodilcgkaaQ1
import Derived.Test.YtpifnlodilcgkaaL1
set_option linter.unusedVariables false
namespace Go.Proofs.Ytpifnlodilcgkaa
namespace Abs

/-! ### names by their bytes, an entry more: the plain law -/
def tl (s : ByteArray) : List UInt8 := s.data.toList
theorem tl_inj {a b : ByteArray} (h : tl a = tl b) : a = b := by
  cases a; cases b
  simpa [tl] using h
theorem bless (a b : ByteArray) : Op.bytesLess a.toList b.toList = decide (tl a < tl b) := by
  rw [bytesLess_eq, ByteArray.toList_eq, ByteArray.toList_eq]; rfl
theorem gtB_lt (name : ByteArray) (e : Ent) : gtB name e = decide (tl name < tl e.name) := by
  unfold gtB
  rw [bless]
  by_cases h : tl e.name < tl name
  · have : ¬ tl name < tl e.name := List.lt_asymm h
    simp [h, this]
  · by_cases h2 : e.name = name
    · subst h2
      simp [List.lt_irrefl]
    · have h3 : tl name < tl e.name := by
        rcases Decidable.em (tl name < tl e.name) with h4 | h4
        · exact h4
        · exact absurd (tl_inj (List.le_antisymm (List.not_lt.1 h4) (List.not_lt.1 h))) h2
      simp [h, h2, h3]
def insE (new : Ent) : List Ent → List Ent
  | [] => [new]
  | e :: l => if tl new.name < tl e.name then new :: e :: l else e :: insE new l
theorem insE_cut (new : Ent) : ∀ l : List Ent, insE new l = l.take ((l.findIdx? (gtB new.name)).getD l.length) ++ [new] ++ l.drop ((l.findIdx? (gtB new.name)).getD l.length)
  | [] => rfl
  | e :: l => by
    rw [insE, List.findIdx?_cons, gtB_lt]
    by_cases h : tl new.name < tl e.name
    · rw [if_pos h, decide_eq_true h]; simp
    · rw [if_neg h, decide_eq_false h, insE_cut new l]
      cases hx : l.findIdx? (gtB new.name) with
      | none => simp
      | some k => simp
/-! ### entries that may be: the plain law -/
def entOk (e : Ent) : Prop := nameOk e.name = true ∧ 1 ≤ e.node
def ltE (a b : Ent) : Prop := tl a.name < tl b.name
theorem ltE_trans {a b c : Ent} (h : ltE a b) (k : ltE b c) : ltE a c := List.lt_trans h k
theorem risingFrom_iff : ∀ (l : List Ent) (p : Option ByteArray), risingFrom p l = true ↔ (∀ e ∈ l, entOk e) ∧ l.Pairwise ltE ∧ ∀ q, p = some q → ∀ e ∈ l, tl q < tl e.name
  | [], p => by simp [risingFrom]
  | e :: l, p => by
    have ih := risingFrom_iff l (some e.name)
    simp only [risingFrom, Bool.and_eq_true, decide_eq_true_eq, ih]
    constructor
    · rintro ⟨⟨⟨h1, h2⟩, h30⟩, h4, h5, h6⟩
      have h3 : ∀ q, p = some q → tl q < tl e.name := fun q hq => by subst hq; simpa [bless] using h30
      refine ⟨fun x hx => ?_, ?_, fun q hq x hx => ?_⟩
      · rcases List.mem_cons.1 hx with rfl | hx
        · exact ⟨h1, h2⟩
        · exact h4 x hx
      · rw [List.pairwise_cons]
        exact ⟨fun x hx => h6 _ rfl x hx, h5⟩
      · rcases List.mem_cons.1 hx with rfl | hx
        · exact h3 q hq
        · exact List.lt_trans (h3 q hq) (h6 _ rfl x hx)
    · rintro ⟨h1, h2, h3⟩
      rw [List.pairwise_cons] at h2
      refine ⟨⟨⟨(h1 e List.mem_cons_self).1, (h1 e List.mem_cons_self).2⟩, (by
        cases p with
        | none => rfl
        | some q => have := h3 q rfl e List.mem_cons_self; simpa [bless] using this)⟩, fun x hx => h1 x (List.mem_cons_of_mem _ hx), h2.2, fun q hq x hx => ?_⟩
      cases hq
      exact h2.1 x hx
theorem rising_iff (l : List Ent) : rising l = true ↔ (∀ e ∈ l, entOk e) ∧ l.Pairwise ltE ∧ l.length ≤ 8 := by
  unfold rising
  rw [Bool.and_eq_true, risingFrom_iff, decide_eq_true_eq]
  constructor
  · rintro ⟨⟨h1, h2, _⟩, h3⟩; exact ⟨h1, h2, by omega⟩
  · rintro ⟨h1, h2, h3⟩; exact ⟨⟨h1, h2, (by intro q hq; cases hq)⟩, by omega⟩
theorem insE_mem (new : Ent) : ∀ (l : List Ent) (x : Ent), x ∈ insE new l ↔ x = new ∨ x ∈ l
  | [], x => by simp [insE]
  | e :: l, x => by
    rw [insE]
    split
    · simp
    · rw [List.mem_cons, insE_mem new l, List.mem_cons]
      constructor
      · rintro (h | h | h)
        · exact .inr (.inl h)
        · exact .inl h
        · exact .inr (.inr h)
      · rintro (h | h | h)
        · exact .inr (.inl h)
        · exact .inl h
        · exact .inr (.inr h)
theorem lt_of_not {a b : ByteArray} (h : ¬ tl a < tl b) (hne : b ≠ a) : tl b < tl a := by
  rcases Decidable.em (tl b < tl a) with k | k
  · exact k
  · exact absurd (tl_inj (List.le_antisymm (List.not_lt.1 h) (List.not_lt.1 k))) hne
theorem insE_sorted (new : Ent) : ∀ {l : List Ent}, l.Pairwise ltE → (∀ e ∈ l, e.name ≠ new.name) → (insE new l).Pairwise ltE
  | [], _, _ => by simp [insE]
  | e :: l, h, hne => by
    rw [List.pairwise_cons] at h
    rw [insE]
    split
    · rename_i hx
      rw [List.pairwise_cons, List.pairwise_cons]
      refine ⟨fun y hy => ?_, h⟩
      rcases List.mem_cons.1 hy with rfl | hy
      · exact hx
      · exact ltE_trans (b := e) hx (h.1 y hy)
    · rename_i hx
      rw [List.pairwise_cons]
      refine ⟨fun y hy => ?_, insE_sorted new h.2 (fun x hx => hne x (List.mem_cons_of_mem _ hx))⟩
      rcases (insE_mem new l y).1 hy with rfl | hy
      · exact lt_of_not hx (hne e List.mem_cons_self)
      · exact h.1 y hy
theorem insE_len (new : Ent) : ∀ l : List Ent, (insE new l).length = l.length + 1
  | [] => rfl
  | e :: l => by
    rw [insE]
    split
    · rfl
    · simp [insE_len new l]
theorem withN_ents {n : Node} {name : ByteArray} {id : Int} (h : n.withE name id = 0) : n.withN name id = { n with ents := insE ⟨name, id⟩ n.ents } := by
  rw [Node.withN, if_pos h, insE_cut]; rfl
/-- Where a list of names that differ has one. -/
theorem find_uniq {l : List Ent} {name : ByteArray} {k : Nat} (hk : k < l.length) (he : l[k].name = name) (hu : l.Pairwise ltE) : l.findIdx? (fun e => decide (e.name = name)) = some k := by
  rw [List.findIdx?_eq_some_iff_getElem]
  refine ⟨hk, by simpa using he, fun j hj => ?_⟩
  have := (List.pairwise_iff_getElem.1 hu) j k (by omega) hk hj
  simp only [decide_eq_true_eq]
  intro e
  unfold ltE at this
  rw [e, he] at this
  exact List.lt_irrefl _ this
theorem insE_at (new : Ent) : ∀ l : List Ent, ∃ k, ∃ hk : k < (insE new l).length, (insE new l)[k] = new ∧ (insE new l).take k ++ (insE new l).drop (k + 1) = l
  | [] => ⟨0, by simp [insE], by simp [insE], by simp [insE]⟩
  | e :: l => by
    by_cases h : tl new.name < tl e.name
    · refine ⟨0, by rw [insE, if_pos h]; simp, by simp [insE, h], by simp [insE, h]⟩
    · obtain ⟨k, hk, h1, h2⟩ := insE_at new l
      refine ⟨k + 1, by rw [insE, if_neg h]; simp; exact hk, by simp [insE, h, h1], ?_⟩
      simp only [insE, if_neg h, List.take_succ_cons, List.drop_succ_cons, List.cons_append, h2]


/-! ### an entry more, an entry less, of a directory that may be: the plain law -/
theorem nodeOk_kind0 {n : Node} (h : nodeOk n = true) : n.kind = 1 ∨ n.kind = 2 ∨ n.kind = 3 := by
  unfold nodeOk at h
  by_cases h1 : n.kind = 1
  · exact .inl h1
  by_cases h2 : n.kind = 2
  · exact .inr (.inl h2)
  by_cases h3 : n.kind = 3
  · exact .inr (.inr h3)
  rw [if_neg h1, if_neg h2, if_neg h3, Bool.and_false] at h
  cases h
theorem dirOk_iff {n : Node} (hk : n.kind = 2) : nodeOk n = true ↔ ((0 ≤ n.mode ∧ n.mode ≤ 4095) ∧ idOk n.uid = true ∧ idOk n.gid = true) ∧ n.data.size = 0 ∧ n.target = ⟨#[]⟩ ∧ rising n.ents = true := by
  unfold nodeOk
  rw [if_neg (show ¬ n.kind = 1 by omega), if_pos hk]
  simp only [Bool.and_eq_true, decide_eq_true_eq]
  constructor
  · rintro ⟨⟨⟨⟨h1, h2⟩, h3⟩, h4⟩, ⟨h5, h6⟩, h7⟩; exact ⟨⟨⟨h1, h2⟩, h3, h4⟩, h5, h6, h7⟩
  · rintro ⟨⟨⟨h1, h2⟩, h3, h4⟩, h5, h6, h7⟩; exact ⟨⟨⟨⟨h1, h2⟩, h3⟩, h4⟩, ⟨h5, h6⟩, h7⟩
theorem dirOk_ents {n : Node} (hk : n.kind = 2) (h : nodeOk n = true) {l : List Ent} (hl : rising l = true) : nodeOk { n with ents := l } = true := by
  have h' := (dirOk_iff hk).1 h
  exact (dirOk_iff (n := { n with ents := l }) hk).2 ⟨h'.1, h'.2.1, h'.2.2.1, hl⟩
theorem withE_zero {n : Node} {name : ByteArray} {id : Int} (h : n.withE name id = 0) : n.kind = 2 ∧ badName name id = false ∧ name.size ≤ 12 ∧ n.place name = none ∧ n.ents.length < 8 := by
  unfold Node.withE at h
  split at h
  · cases h
  rename_i h1
  split at h
  · cases h
  rename_i h2
  split at h
  · cases h
  rename_i h3
  split at h
  · cases h
  rename_i h4
  split at h
  · cases h
  rename_i h5
  refine ⟨Decidable.of_not_not h1, by simpa using h2, by omega, ?_, by omega⟩
  cases hp : n.place name with
  | none => rfl
  | some k => rw [hp] at h4; simp at h4
theorem bad_ok {name : ByteArray} {id : Int} (h : badName name id = false) (hs : name.size ≤ 12) : nameOk name = true ∧ 1 ≤ id := by
  simp only [badName, Bool.or_eq_false_iff, decide_eq_false_iff_not] at h
  obtain ⟨⟨⟨⟨h1, h2⟩, h3⟩, h4⟩, h5⟩ := h
  refine ⟨?_, by omega⟩
  have hz : (name.size : Int) ≤ 12 := by omega
  simp only [nameOk, Bool.and_eq_true, Bool.not_eq_true', decide_eq_false_iff_not, decide_eq_true_eq, Bool.or_eq_false_iff]
  exact ⟨⟨⟨⟨h2, hz⟩, h3⟩, h4⟩, h5⟩
theorem place_none {n : Node} {name : ByteArray} (h : n.place name = none) : ∀ e ∈ n.ents, e.name ≠ name := by
  unfold Node.place at h
  rw [List.findIdx?_eq_none_iff] at h
  intro e he
  simpa using h e he
theorem with_rising {n : Node} {name : ByteArray} {id : Int} (hr : rising n.ents = true) (h : n.withE name id = 0) : rising (insE ⟨name, id⟩ n.ents) = true := by
  obtain ⟨h1, h2, h3, h4, h5⟩ := withE_zero h
  obtain ⟨r1, r2, r3⟩ := (rising_iff _).1 hr
  obtain ⟨b1, b2⟩ := bad_ok h2 h3
  refine (rising_iff _).2 ⟨fun e he => ?_, insE_sorted _ r2 (place_none h4), by rw [insE_len]; omega⟩
  rcases (insE_mem _ _ _).1 he with rfl | he
  · exact ⟨b1, b2⟩
  · exact r1 e he
/-- One that is put in, and taken out. -/
theorem stays_with {n : Node} {name : ByteArray} {id : Int} (ho : nodeOk n = true) (h : n.withE name id = 0) :
    nodeOk (n.withN name id) = true ∧ (n.withN name id).withoutE name = 0 ∧ (n.withN name id).withoutN name = n ∧ (n.withN name id).find name = id ∧ (n.withN name id).size = n.size + 1 := by
  obtain ⟨h1, h2, h3, h4, h5⟩ := withE_zero h
  have hr := ((dirOk_iff h1).1 ho).2.2.2
  have hr2 := with_rising hr h
  rw [withN_ents h]
  obtain ⟨k, hk, e1, e2⟩ := insE_at ⟨name, id⟩ n.ents
  have hp : Node.place { n with ents := insE ⟨name, id⟩ n.ents } name = some k := find_uniq hk (by rw [e1]) ((rising_iff _).1 hr2).2.1
  refine ⟨dirOk_ents h1 ho hr2, ?_, ?_, ?_, ?_⟩
  · unfold Node.withoutE
    rw [if_neg (show ¬ ¬ n.kind = 2 from fun q => q h1), hp]
    rfl
  · have hk2 : (n.kind == 2) = true := by simpa using h1
    simp only [Node.withoutN, hp, hk2, Node.cut]
    rw [List.append_nil, e2]
  · unfold Node.find
    rw [hp]
    simp only [List.getD_eq_getElem?_getD, List.getElem?_eq_getElem hk, Option.getD_some, e1]
  · simp [Node.size, h1, insE_len]
theorem zero_nlen0 : Node.zero.nlen := ⟨by decide, fun e he => by cases he⟩
theorem cut_small {n : Node} (hf : n.few) (p q : Nat) {more : List Ent} (hm : more.length ≤ 1) : (n.cut p q more).small := ⟨by have := hf.2.1; show n.data.size ≤ _; omega, by
  have := hf.1
  show (n.ents.take p ++ more ++ n.ents.drop q).length ≤ _
  simp only [List.length_append, List.length_take, List.length_drop]; omega⟩
theorem cut_nlen {n : Node} (hf : n.few) (p q : Nat) {more : List Ent} (hm : more.length ≤ 1) (hs : ∀ e ∈ more, e.name.size ≤ 40) : (n.cut p q more).nlen := ⟨(cut_small hf p q hm).2, fun e he => by
  rcases List.mem_append.1 he with he | he
  · rcases List.mem_append.1 he with he | he
    · have := hf.2.2.2 e (List.mem_of_mem_take he); omega
    · have := hs e he; omega
  · have := hf.2.2.2 e (List.mem_of_mem_drop he); omega⟩
theorem withN_sizes {n : Node} (hf : n.few) {name : ByteArray} (hn : name.size ≤ 40) (id : Int) : (n.withN name id).small ∧ (n.withN name id).nlen := by
  unfold Node.withN
  split
  · exact ⟨cut_small hf _ _ (Nat.le_refl 1), cut_nlen hf _ _ (Nat.le_refl 1) (fun e he => by rw [List.mem_singleton.1 he]; exact hn)⟩
  · exact ⟨Node.zero_small, zero_nlen0⟩
end Abs
end Go.Proofs.Ytpifnlodilcgkaa
