import Derived.Test.YtmokoofibnoojaaM9
set_option linter.unusedVariables false
namespace Go.Proofs.Ytmokoofibnoojaa
namespace Abs

/-! ### entries in whatever order: the plain law -/
structure OrdSt (S : ByteArray → Prop) (n : Node) : Prop where
  kind : n.kind = 2
  ok : nodeOk n = true
  mem : ∀ x, x ∈ entNames n.ents ↔ S x
theorem OrdSt.rising {S : ByteArray → Prop} {n : Node} (h : OrdSt S n) : Abs.rising n.ents = true := ((dirOk_iff h.kind).1 h.ok).2.2.2
theorem nameOk_size0 {s : ByteArray} (h : nameOk s = true) : s.size ≤ 12 := by
  simp only [nameOk, Bool.and_eq_true, decide_eq_true_eq] at h
  have := h.1.1.1.2
  omega
theorem OrdSt.few {S : ByteArray → Prop} {n : Node} (h : OrdSt S n) : n.few := by
  have h1 := (dirOk_iff h.kind).1 h.ok
  have h2 := (rising_iff _).1 h.rising
  refine ⟨by omega, by omega, by rw [h1.2.2.1]; decide, fun e he => ?_⟩
  have := nameOk_size0 (h2.1 e he).1
  omega
theorem ents_nodup {l : List Ent} (h : rising l = true) : (entNames l).Nodup := by
  unfold entNames List.Nodup
  rw [List.pairwise_map]
  refine ((rising_iff _).1 h).2.1.imp (fun {a b} h e => ?_)
  unfold ltE at h
  rw [e] at h
  exact List.lt_irrefl _ h
theorem ok_bad {name : ByteArray} {id : Int} (h : nameOk name = true) (hid : 1 ≤ id) : badName name id = false ∧ ¬ 12 < (name.size : Int) := by
  simp only [nameOk, Bool.and_eq_true, Bool.not_eq_true', decide_eq_false_iff_not, decide_eq_true_eq, Bool.or_eq_false_iff] at h
  obtain ⟨⟨⟨⟨h2, hz⟩, h3⟩, h4⟩, h5⟩ := h
  refine ⟨?_, by omega⟩
  simp only [badName, Bool.or_eq_false_iff, decide_eq_false_iff_not]
  exact ⟨⟨⟨⟨by omega, h2⟩, h3⟩, h4⟩, h5⟩
theorem place_mem {n : Node} {name : ByteArray} : (n.place name).isSome = true ↔ name ∈ entNames n.ents := by
  unfold Node.place entNames
  rw [List.findIdx?_isSome, List.any_eq_true]
  simp only [List.mem_map, decide_eq_true_eq]
theorem ord_zero {S : ByteArray → Prop} {n : Node} (h : OrdSt S n) {name : ByteArray} {id : Int} (e : n.withE name id = 0) :
    nameOk name = true ∧ ¬ S name ∧ OrdSt (fun x => S x ∨ x = name) (n.withN name id) ∧ (n.withN name id).ents.length = n.ents.length + 1 := by
  obtain ⟨h1, h2, h3, h4, h5⟩ := withE_zero e
  obtain ⟨b1, b2⟩ := bad_ok h2 h3
  have hs := stays_with h.ok e
  refine ⟨b1, fun hS => ?_, ⟨?_, hs.1, fun x => ?_⟩, ?_⟩
  · have := (place_mem (n := n)).2 ((h.mem name).2 hS)
    rw [h4] at this; cases this
  · rw [withN_ents e]; exact h.kind
  · rw [withN_ents e]
    rw [← h.mem]
    unfold entNames
    simp only [List.mem_map, insE_mem]
    constructor
    · rintro ⟨y, hy | hy, rfl⟩
      · exact .inr (by rw [hy])
      · exact .inl ⟨y, hy, rfl⟩
    · rintro (⟨y, hy, rfl⟩ | hx)
      · exact ⟨y, .inr hy, rfl⟩
      · exact ⟨⟨name, id⟩, .inl rfl, hx.symm⟩
  · rw [withN_ents e]; exact insE_len _ _
theorem ord_not {S : ByteArray → Prop} {n : Node} (h : OrdSt S n) {name : ByteArray} {id : Int} (hid : 1 ≤ id) (e : n.withE name id ≠ 0) (e28 : n.withE name id ≠ 28) (hn : nameOk name = true) : S name := by
  obtain ⟨h2, h3⟩ := ok_bad hn hid
  rcases Decidable.em ((n.place name).isSome = true) with hp | hp
  · exact (h.mem name).1 (place_mem.1 hp)
  · exfalso
    unfold Node.withE at e e28
    rw [if_neg (show ¬ ¬ n.kind = 2 from fun q => q h.kind), if_neg (by rw [h2]; decide), if_neg h3, if_neg hp] at e e28
    split at e28
    · exact e28 rfl
    · rename_i h8; rw [if_neg h8] at e; exact e rfl
theorem ord_full {S : ByteArray → Prop} {n : Node} (h : OrdSt S n) {name : ByteArray} {id : Int} (e : n.withE name id = 28) : nameOk name = true ∧ ¬ S name ∧ 8 ≤ n.ents.length := by
  unfold Node.withE at e
  rw [if_neg (show ¬ ¬ n.kind = 2 from fun q => q h.kind)] at e
  split at e
  · cases e
  rename_i h2
  split at e
  · cases e
  rename_i h3
  split at e
  · cases e
  rename_i h4
  split at e
  · rename_i h5
    refine ⟨(bad_ok (by simpa using h2) (by omega)).1, fun hS => h4 (place_mem.2 ((h.mem name).2 hS)), h5⟩
  · cases e
theorem ord_same {S T : ByteArray → Prop} {a b : Node} (ha : OrdSt S a) (hb : OrdSt T b) (hST : ∀ x, S x ↔ T x) : entNames a.ents = entNames b.ents := by
  refine sort_unique ((List.perm_ext_iff_of_nodup (ents_nodup ha.rising) (ents_nodup hb.rising)).2 fun x => by rw [ha.mem, hb.mem, hST]) ?_ ?_
  · rw [← names_sorted ha.rising]; exact sortB_sorted _
  · rw [← names_sorted hb.rising]; exact sortB_sorted _
/-- Where one more name that may be stands in a greater directory there is room. -/
theorem ord_room {S T : ByteArray → Prop} {a b : Node} (ha : OrdSt S a) (hb : OrdSt T b) (hST : ∀ x, T x → S x) {name : ByteArray} (h1 : S name) (h2 : ¬ T name) : b.ents.length < 8 := by
  have hnd : (name :: entNames b.ents).Nodup := List.nodup_cons.2 ⟨fun h => h2 ((hb.mem name).1 h), ents_nodup hb.rising⟩
  have hsub : ∀ x ∈ name :: entNames b.ents, x ∈ entNames a.ents := fun x hx => by
    rcases List.mem_cons.1 hx with rfl | hx
    · exact (ha.mem _).2 h1
    · exact (ha.mem _).2 (hST _ ((hb.mem _).1 hx))
  have := hnd.length_le_of_subset hsub
  have h8 := ((rising_iff _).1 ha.rising).2.2
  simp [entNames] at this
  omega
def S1 (l : List ByteArray) (i : Nat) (x : ByteArray) : Prop := ∃ j, j < i ∧ l[j]? = some x ∧ nameOk x = true
def S2 (l : List ByteArray) (t i : Nat) (x : ByteArray) : Prop := ∃ j, j < i ∧ l[(j + t) % l.length]? = some x ∧ nameOk x = true
theorem turn_hits {L t j : Nat} (hj : j < L) : ∃ i, i < L ∧ (i + t) % L = j := by
  have hL : 0 < L := by omega
  refine ⟨(j + (L - t % L)) % L, Nat.mod_lt _ hL, ?_⟩
  rw [Nat.mod_add_mod]
  have h1 := Nat.div_add_mod t L
  have h2 := Nat.mod_lt t hL
  have : j + (L - t % L) + t = j + L * (t / L + 1) := by rw [Nat.mul_add, Nat.mul_one]; omega
  rw [this, Nat.add_mul_mod_self_left, Nat.mod_eq_of_lt hj]
theorem S2_all (l : List ByteArray) (t : Nat) (x : ByteArray) : S2 l t l.length x ↔ S1 l l.length x := by
  constructor
  · rintro ⟨j, hj, h1, h2⟩
    refine ⟨_, ?_, h1, h2⟩
    exact Nat.mod_lt _ (by omega)
  · rintro ⟨j, hj, h1, h2⟩
    obtain ⟨i, hi, e⟩ := turn_hits (t := t) hj
    exact ⟨i, hi, by rw [e]; exact h1, h2⟩
theorem S2_sub (l : List ByteArray) (t i : Nat) (hi : i ≤ l.length) (x : ByteArray) (h : S2 l t i x) : S1 l l.length x := by
  obtain ⟨j, hj, h1, h2⟩ := h
  exact ⟨_, Nat.mod_lt _ (by omega), h1, h2⟩
theorem S1_succ {l : List ByteArray} {i : Nat} {s : ByteArray} (h : l[i]? = some s) (x : ByteArray) : S1 l (i + 1) x ↔ (S1 l i x ∨ (x = s ∧ nameOk s = true)) := by
  constructor
  · rintro ⟨j, hj, h1, h2⟩
    rcases Nat.lt_or_ge j i with hlt | hge
    · exact .inl ⟨j, hlt, h1, h2⟩
    · have : j = i := by omega
      subst this
      rw [h] at h1; cases h1
      exact .inr ⟨rfl, h2⟩
  · rintro (⟨j, hj, h1, h2⟩ | ⟨rfl, h2⟩)
    · exact ⟨j, by omega, h1, h2⟩
    · exact ⟨i, by omega, h, h2⟩
theorem S2_succ {l : List ByteArray} {t i : Nat} {s : ByteArray} (h : l[(i + t) % l.length]? = some s) (x : ByteArray) : S2 l t (i + 1) x ↔ (S2 l t i x ∨ (x = s ∧ nameOk s = true)) := by
  constructor
  · rintro ⟨j, hj, h1, h2⟩
    rcases Nat.lt_or_ge j i with hlt | hge
    · exact .inl ⟨j, hlt, h1, h2⟩
    · have : j = i := by omega
      subst this
      rw [h] at h1; cases h1
      exact .inr ⟨rfl, h2⟩
  · rintro (⟨j, hj, h1, h2⟩ | ⟨rfl, h2⟩)
    · exact ⟨j, by omega, h1, h2⟩
    · exact ⟨i, by omega, h, h2⟩
theorem OrdSt.congr {S T : ByteArray → Prop} {n : Node} (h : OrdSt S n) (e : ∀ x, S x ↔ T x) : OrdSt T n := ⟨h.kind, h.ok, fun x => (h.mem x).trans (e x)⟩
end Abs
end Go.Proofs.Ytmokoofibnoojaa
