import Derived.Test.YtpifnlodilcgkaaV1
import Derived.Test.YtpifnlodilcgkaaQ1
import Derived.Test.YtpifnlodilcgkaaL1
set_option linter.unusedVariables false
namespace Go.Proofs.Ytpifnlodilcgkaa
namespace Abs

/-! ### names by their bytes, an entry more: the plain law -/
def tl (s : ByteArray) : List UInt8 := s.data.toList
theorem tl_inj {a b : ByteArray} (h : tl a = tl b) : a = b := by
  cases a; cases b
  simpa [tl] using h
theorem bless (a b : ByteArray) : Op.bytesLess a.toList b.toList = decide (tl a < tl b) := by
  rw [bytesLess_eq, ByteArray.toList_eq, ByteArray.toList_eq]; rfl
/-! ### entries that may be: the plain law -/
def entOk (e : Ent) : Prop := nameOk e.name = true ∧ 1 ≤ e.node
def ltE (a b : Ent) : Prop := tl a.name < tl b.name
theorem risingFrom_iff : ∀ (l : List Ent) (p : Option ByteArray), risingFrom p l = true ↔ (∀ e ∈ l, entOk e) ∧ l.Pairwise ltE ∧ ∀ q, p = some q → ∀ e ∈ l, tl q < tl e.name
  | [], p => by simp [risingFrom]
  | e :: l, p => by
    have ih := risingFrom_iff l (some e.name)
    simp only [risingFrom, Bool.and_eq_true, decide_eq_true_eq, ih]
    constructor
    · rintro ⟨⟨⟨h1, h2⟩, h30⟩, h4, h5, h6⟩
      have h3 : ∀ q, p = some q → tl q < tl e.name := fun q hq => by subst hq; simpa [bless] using h30
      refine ⟨fun x hx => ?_, ?_, fun q hq x hx => ?_⟩
      · rcases List.mem_cons.1 hx with rfl | hx
        · exact ⟨h1, h2⟩
        · exact h4 x hx
      · rw [List.pairwise_cons]
        exact ⟨fun x hx => h6 _ rfl x hx, h5⟩
      · rcases List.mem_cons.1 hx with rfl | hx
        · exact h3 q hq
        · exact List.lt_trans (h3 q hq) (h6 _ rfl x hx)
    · rintro ⟨h1, h2, h3⟩
      rw [List.pairwise_cons] at h2
      refine ⟨⟨⟨(h1 e List.mem_cons_self).1, (h1 e List.mem_cons_self).2⟩, (by
        cases p with
        | none => rfl
        | some q => have := h3 q rfl e List.mem_cons_self; simpa [bless] using this)⟩, fun x hx => h1 x (List.mem_cons_of_mem _ hx), h2.2, fun q hq x hx => ?_⟩
      cases hq
      exact h2.1 x hx
theorem rising_iff (l : List Ent) : rising l = true ↔ (∀ e ∈ l, entOk e) ∧ l.Pairwise ltE ∧ l.length ≤ 8 := by
  unfold rising
  rw [Bool.and_eq_true, risingFrom_iff, decide_eq_true_eq]
  constructor
  · rintro ⟨⟨h1, h2, _⟩, h3⟩; exact ⟨h1, h2, by omega⟩
  · rintro ⟨h1, h2, h3⟩; exact ⟨⟨h1, h2, (by intro q hq; cases hq)⟩, by omega⟩
/-- Where a list of names that differ has one. -/
theorem find_uniq {l : List Ent} {name : ByteArray} {k : Nat} (hk : k < l.length) (he : l[k].name = name) (hu : l.Pairwise ltE) : l.findIdx? (fun e => decide (e.name = name)) = some k := by
  rw [List.findIdx?_eq_some_iff_getElem]
  refine ⟨hk, by simpa using he, fun j hj => ?_⟩
  have := (List.pairwise_iff_getElem.1 hu) j k (by omega) hk hj
  simp only [decide_eq_true_eq]
  intro e
  unfold ltE at this
  rw [e, he] at this
  exact List.lt_irrefl _ this
/-! ### an entry more, an entry less, of a directory that may be: the plain law -/
theorem nodeOk_kind0 {n : Node} (h : nodeOk n = true) : n.kind = 1 ∨ n.kind = 2 ∨ n.kind = 3 := by
  unfold nodeOk at h
  by_cases h1 : n.kind = 1
  · exact .inl h1
  by_cases h2 : n.kind = 2
  · exact .inr (.inl h2)
  by_cases h3 : n.kind = 3
  · exact .inr (.inr h3)
  rw [if_neg h1, if_neg h2, if_neg h3, Bool.and_false] at h
  cases h
theorem dirOk_iff {n : Node} (hk : n.kind = 2) : nodeOk n = true ↔ ((0 ≤ n.mode ∧ n.mode ≤ 4095) ∧ idOk n.uid = true ∧ idOk n.gid = true) ∧ n.data.size = 0 ∧ n.target = ⟨#[]⟩ ∧ rising n.ents = true := by
  unfold nodeOk
  rw [if_neg (show ¬ n.kind = 1 by omega), if_pos hk]
  simp only [Bool.and_eq_true, decide_eq_true_eq]
  constructor
  · rintro ⟨⟨⟨⟨h1, h2⟩, h3⟩, h4⟩, ⟨h5, h6⟩, h7⟩; exact ⟨⟨⟨h1, h2⟩, h3, h4⟩, h5, h6, h7⟩
  · rintro ⟨⟨⟨h1, h2⟩, h3, h4⟩, h5, h6, h7⟩; exact ⟨⟨⟨⟨h1, h2⟩, h3⟩, h4⟩, ⟨h5, h6⟩, h7⟩
theorem zero_nlen0 : Node.zero.nlen := ⟨by decide, fun e he => by cases he⟩
theorem cut_small {n : Node} (hf : n.few) (p q : Nat) {more : List Ent} (hm : more.length ≤ 1) : (n.cut p q more).small := ⟨by have := hf.2.1; show n.data.size ≤ _; omega, by
  have := hf.1
  show (n.ents.take p ++ more ++ n.ents.drop q).length ≤ _
  simp only [List.length_append, List.length_take, List.length_drop]; omega⟩
theorem cut_nlen {n : Node} (hf : n.few) (p q : Nat) {more : List Ent} (hm : more.length ≤ 1) (hs : ∀ e ∈ more, e.name.size ≤ 40) : (n.cut p q more).nlen := ⟨(cut_small hf p q hm).2, fun e he => by
  rcases List.mem_append.1 he with he | he
  · rcases List.mem_append.1 he with he | he
    · have := hf.2.2.2 e (List.mem_of_mem_take he); omega
    · have := hs e he; omega
  · have := hf.2.2.2 e (List.mem_of_mem_drop he); omega⟩
theorem withN_sizes {n : Node} (hf : n.few) {name : ByteArray} (hn : name.size ≤ 40) (id : Int) : (n.withN name id).small ∧ (n.withN name id).nlen := by
  unfold Node.withN
  split
  · exact ⟨cut_small hf _ _ (Nat.le_refl 1), cut_nlen hf _ _ (Nat.le_refl 1) (fun e he => by rw [List.mem_singleton.1 he]; exact hn)⟩
  · exact ⟨Node.zero_small, zero_nlen0⟩
end Abs
end Go.Proofs.Ytpifnlodilcgkaa
