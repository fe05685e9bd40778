import Derived.Test.YtmokoofibnoojaaM5
set_option linter.unusedVariables false
namespace Go.Proofs.Ytmokoofibnoojaa
namespace Abs

/-! ### an entry more, an entry less, of a directory that may be: the plain law -/
theorem dirOk_iff {n : Node} (hk : n.kind = 2) : nodeOk n = true ↔ ((0 ≤ n.mode ∧ n.mode ≤ 4095) ∧ idOk n.uid = true ∧ idOk n.gid = true) ∧ n.data.size = 0 ∧ n.target = ⟨#[]⟩ ∧ rising n.ents = true := by
  unfold nodeOk
  rw [if_neg (show ¬ n.kind = 1 by omega), if_pos hk]
  simp only [Bool.and_eq_true, decide_eq_true_eq]
  constructor
  · rintro ⟨⟨⟨⟨h1, h2⟩, h3⟩, h4⟩, ⟨h5, h6⟩, h7⟩; exact ⟨⟨⟨h1, h2⟩, h3, h4⟩, h5, h6, h7⟩
  · rintro ⟨⟨⟨h1, h2⟩, h3, h4⟩, h5, h6, h7⟩; exact ⟨⟨⟨⟨h1, h2⟩, h3⟩, h4⟩, ⟨h5, h6⟩, h7⟩
theorem dirOk_ents {n : Node} (hk : n.kind = 2) (h : nodeOk n = true) {l : List Ent} (hl : rising l = true) : nodeOk { n with ents := l } = true := by
  have h' := (dirOk_iff hk).1 h
  exact (dirOk_iff (n := { n with ents := l }) hk).2 ⟨h'.1, h'.2.1, h'.2.2.1, hl⟩
theorem withE_zero {n : Node} {name : ByteArray} {id : Int} (h : n.withE name id = 0) : n.kind = 2 ∧ badName name id = false ∧ name.size ≤ 12 ∧ n.place name = none ∧ n.ents.length < 8 := by
  unfold Node.withE at h
  split at h
  · cases h
  rename_i h1
  split at h
  · cases h
  rename_i h2
  split at h
  · cases h
  rename_i h3
  split at h
  · cases h
  rename_i h4
  split at h
  · cases h
  rename_i h5
  refine ⟨Decidable.of_not_not h1, by simpa using h2, by omega, ?_, by omega⟩
  cases hp : n.place name with
  | none => rfl
  | some k => rw [hp] at h4; simp at h4
theorem bad_ok {name : ByteArray} {id : Int} (h : badName name id = false) (hs : name.size ≤ 12) : nameOk name = true ∧ 1 ≤ id := by
  simp only [badName, Bool.or_eq_false_iff, decide_eq_false_iff_not] at h
  obtain ⟨⟨⟨⟨h1, h2⟩, h3⟩, h4⟩, h5⟩ := h
  refine ⟨?_, by omega⟩
  have hz : (name.size : Int) ≤ 12 := by omega
  simp only [nameOk, Bool.and_eq_true, Bool.not_eq_true', decide_eq_false_iff_not, decide_eq_true_eq, Bool.or_eq_false_iff]
  exact ⟨⟨⟨⟨h2, hz⟩, h3⟩, h4⟩, h5⟩
theorem place_none {n : Node} {name : ByteArray} (h : n.place name = none) : ∀ e ∈ n.ents, e.name ≠ name := by
  unfold Node.place at h
  rw [List.findIdx?_eq_none_iff] at h
  intro e he
  simpa using h e he
theorem with_rising {n : Node} {name : ByteArray} {id : Int} (hr : rising n.ents = true) (h : n.withE name id = 0) : rising (insE ⟨name, id⟩ n.ents) = true := by
  obtain ⟨h1, h2, h3, h4, h5⟩ := withE_zero h
  obtain ⟨r1, r2, r3⟩ := (rising_iff _).1 hr
  obtain ⟨b1, b2⟩ := bad_ok h2 h3
  refine (rising_iff _).2 ⟨fun e he => ?_, insE_sorted _ r2 (place_none h4), by rw [insE_len]; omega⟩
  rcases (insE_mem _ _ _).1 he with rfl | he
  · exact ⟨b1, b2⟩
  · exact r1 e he
/-- One that is put in, and taken out. -/
theorem stays_with {n : Node} {name : ByteArray} {id : Int} (ho : nodeOk n = true) (h : n.withE name id = 0) :
    nodeOk (n.withN name id) = true ∧ (n.withN name id).withoutE name = 0 ∧ (n.withN name id).withoutN name = n ∧ (n.withN name id).find name = id ∧ (n.withN name id).size = n.size + 1 := by
  obtain ⟨h1, h2, h3, h4, h5⟩ := withE_zero h
  have hr := ((dirOk_iff h1).1 ho).2.2.2
  have hr2 := with_rising hr h
  rw [withN_ents h]
  obtain ⟨k, hk, e1, e2⟩ := insE_at ⟨name, id⟩ n.ents
  have hp : Node.place { n with ents := insE ⟨name, id⟩ n.ents } name = some k := find_uniq hk (by rw [e1]) ((rising_iff _).1 hr2).2.1
  refine ⟨dirOk_ents h1 ho hr2, ?_, ?_, ?_, ?_⟩
  · unfold Node.withoutE
    rw [if_neg (show ¬ ¬ n.kind = 2 from fun q => q h1), hp]
    rfl
  · have hk2 : (n.kind == 2) = true := by simpa using h1
    simp only [Node.withoutN, hp, hk2, Node.cut]
    rw [List.append_nil, e2]
  · unfold Node.find
    rw [hp]
    simp only [List.getD_eq_getElem?_getD, List.getElem?_eq_getElem hk, Option.getD_some, e1]
  · simp [Node.size, h1, insE_len]
theorem stays_without {n : Node} {name : ByteArray} (ho : nodeOk n = true) (h : n.withoutE name = 0) :
    nodeOk (n.withoutN name) = true ∧ (n.withoutN name).find name = 0 ∧ (n.withoutN name).size = n.size - 1 := by
  have hk : n.kind = 2 := by
    unfold Node.withoutE at h
    split at h
    · cases h
    · rename_i h1; exact Decidable.of_not_not h1
  cases hp : n.place name with
  | none =>
    exfalso
    simp [Node.withoutE, hk, hp] at h
  | some k =>
    obtain ⟨hkl, hnm⟩ := place_lt hp
    have hN : n.withoutN name = n.cut k (k + 1) [] := by simp [Node.withoutN, hk, hp]
    have hr := ((dirOk_iff hk).1 ho).2.2.2
    obtain ⟨r1, r2, r3⟩ := (rising_iff _).1 hr
    have hers : n.ents.take k ++ [] ++ n.ents.drop (k + 1) = n.ents.eraseIdx k := by rw [List.eraseIdx_eq_take_drop_succ, List.append_nil]
    have hsub : (n.ents.eraseIdx k).Sublist n.ents := List.eraseIdx_sublist _ _
    have hlen : (n.ents.eraseIdx k).length = n.ents.length - 1 := List.length_eraseIdx_of_lt hkl
    rw [hN, Node.cut, hers]
    refine ⟨dirOk_ents hk ho ((rising_iff _).2 ⟨fun e he => r1 e (hsub.subset he), r2.sublist hsub, by omega⟩), ?_, ?_⟩
    · have hnone : Node.place { n with ents := n.ents.eraseIdx k } name = none := by
        unfold Node.place
        rw [List.findIdx?_eq_none_iff]
        intro e he
        simp only [decide_eq_false_iff_not]
        intro en
        obtain ⟨j, hj, hje⟩ := List.mem_iff_getElem.1 he
        have hj' : j < (n.ents.eraseIdx k).length := hj
        have hu := List.pairwise_iff_getElem.1 r2
        rw [List.getElem_eraseIdx] at hje
        split at hje
        · rename_i hjk
          have := hu j k (by omega) hkl hjk
          unfold ltE at this
          rw [hje, en, hnm] at this
          exact List.lt_irrefl _ this
        · rename_i hjk
          have := hu k (j + 1) hkl (by omega) (by omega)
          unfold ltE at this
          rw [hje, en, hnm] at this
          exact List.lt_irrefl _ this
      unfold Node.find
      rw [hnone]
    · simp only [Node.size, hk]
      simp [hlen]
      omega
end Abs
end Go.Proofs.Ytmokoofibnoojaa
