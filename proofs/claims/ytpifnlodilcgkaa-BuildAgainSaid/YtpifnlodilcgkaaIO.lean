import Derived.Test.YtpifnlodilcgkaaIN
set_option linter.unusedVariables false
namespace Go.Proofs.Ytpifnlodilcgkaa
namespace Abs
set_option maxRecDepth 10000
attribute [local irreducible] AOps AW ACalls thenQ inBlk noGoto

/-! ### BuildAgain: what is told of a tree builds one that is told alike -/
/-- All that is below what was told is told. -/
def Clo (T : Tab) (k j : Nat) (s : List Int × List Raw) : Prop := ∀ q d c e, s.1[q]? = some d → (T.at d).ents[c]? = some e → (q < k ∨ (q = k ∧ c < j)) → e.node ∈ s.1
theorem clo_step {T : Tab} {k j : Nat} {s : List Int × List Raw} (h : Clo T k j s) {d : Int} (hd : s.1[k]? = some d) {e : Ent} (he : (T.at d).ents[j]? = some e) : Clo T k (j + 1) (T.tellE k s e) := by
  have hk : k < s.1.length := (List.getElem?_eq_some_iff.1 hd).1
  have hmem : e.node ∈ (T.tellE k s e).1 ∧ ∀ i ∈ s.1, i ∈ (T.tellE k s e).1 := by
    unfold Tab.tellE
    cases hp : placeI s.1 e.node with
    | some p => exact ⟨List.mem_of_getElem? (placeI_get hp), fun i hi => hi⟩
    | none => exact ⟨List.mem_append.2 (.inr List.mem_cons_self), fun i hi => List.mem_append.2 (.inl hi)⟩
  obtain ⟨t, ht⟩ := tellE_pre T k s e
  intro q d2 c e2 h1 h2 h3
  have hq : q < s.1.length := by omega
  rw [ht, List.getElem?_append_left hq] at h1
  rcases h3 with h3 | ⟨rfl, h3⟩
  · exact hmem.2 _ (h q d2 c e2 h1 h2 (.inl h3))
  · by_cases hc : c = j
    · subst hc
      rw [hd] at h1; cases h1
      rw [he] at h2; cases h2
      exact hmem.1
    · exact hmem.2 _ (h q d2 c e2 h1 h2 (.inr ⟨rfl, by omega⟩))
theorem fol_fold {T : Tab} (hg : T.good) (ht : T.tree) {O : List Int} (hO : O.Nodup) {room : Int} {k : Nat} {s : List Int × List Raw} (h : Fol T O room k 0 s) (hc : Clo T k 0 s) {d : Int} (hd : s.1[k]? = some d) (hpre : pre (T.tellN k s (T.at d).ents).1 O) :
    ∀ j : Nat, j ≤ (T.at d).ents.length → Fol T O room k j (T.tellN k s ((T.at d).ents.take j)) ∧ Clo T k j (T.tellN k s ((T.at d).ents.take j))
  | 0, _ => by rw [List.take_zero]; exact ⟨h, hc⟩
  | j + 1, hj => by
    obtain ⟨ih, ic⟩ := fol_fold hg ht hO h hc hd hpre j (by omega)
    have hj' : j < (T.at d).ents.length := by omega
    have hpj : pre (T.tellN k s ((T.at d).ents.take (j + 1))).1 O := by
      have : T.tellN k s (T.at d).ents = T.tellN k (T.tellN k s ((T.at d).ents.take (j + 1))) ((T.at d).ents.drop (j + 1)) := by
        unfold Tab.tellN
        rw [← List.foldl_append, List.take_append_drop]
      rw [this] at hpre
      exact pre_trans (tellN_pre k) hpre
    rw [tellN_take hj'] at hpj ⊢
    have hdj := pre_get (tellN_pre (T := T) k (l := (T.at d).ents.take j) (s := s)) hd
    exact ⟨fol_step hg ht hO ih hdj (List.getElem?_eq_getElem hj') hpj, clo_step ic hdj (List.getElem?_eq_getElem hj')⟩
theorem fol_next {T : Tab} {O : List Int} {room : Int} {k : Nat} {s : List Int × List Raw} {d : Int} (hd : s.1[k]? = some d) (h : Fol T O room k (T.at d).ents.length s) (hc : Clo T k (T.at d).ents.length s) : Fol T O room (k + 1) 0 s ∧ Clo T (k + 1) 0 s := by
  refine ⟨⟨h.ti, ?_, fun i hi hne => ?_⟩, fun q d2 c e h1 h2 h3 => ?_⟩
  · obtain ⟨U, h1, h2⟩ := h.ex
    refine ⟨U, h1, h2.bt, h2.room, fun q d2 hq => ?_⟩
    rw [h2.at_ q d2 hq]
    congr 1
    unfold cq
    by_cases q1 : q < k
    · rw [if_pos q1, if_pos (by omega)]
    · rw [if_neg q1]
      by_cases q2 : q = k
      · subst q2
        rw [hd] at hq; cases hq
        rw [if_pos rfl, if_pos (by omega)]
      · rw [if_neg q2, if_neg (by omega)]
        split <;> rfl
  · obtain ⟨q, d2, c, e, g1, g2, g3, g4⟩ := h.seen i hi hne
    exact ⟨q, d2, c, e, g1, g2, g3, by omega⟩
  · rcases Nat.lt_or_ge q k with q1 | q1
    · exact hc q d2 c e h1 h2 (.inl q1)
    · have q2 : q = k := by omega
      subst q2
      rw [hd] at h1; cases h1
      exact hc q _ c e hd h2 (.inr ⟨rfl, (List.getElem?_eq_some_iff.1 h2).1⟩)
theorem fol_end {T : Tab} (hg : T.good) (ht : T.tree) {O : List Int} (hO : O.Nodup) {room : Int} : ∀ (f k : Nat) (s : List Int × List Raw), k + f = 24 → Fol T O room k 0 s → Clo T k 0 s → (T.tellL f k s).1 = O →
    ∃ k', O.length ≤ k' ∧ Fol T O room k' 0 (T.tellL f k s) ∧ Clo T k' 0 (T.tellL f k s)
  | 0, k, s, hk, h, hc, hf => ⟨k, by
      have : s.1 = O := hf
      have h2 := h.ti.le hg
      rw [this] at h2; omega, h, hc⟩
  | f + 1, k, s, hk, h, hc, hf => by
    rw [Tab.tellL] at hf ⊢
    cases hd : s.1[k]? with
    | none =>
      rw [hd] at hf
      refine ⟨k, ?_, h, hc⟩
      have h2 := List.getElem?_eq_none_iff.1 hd
      have : s.1 = O := hf
      rw [← this]; exact h2
    | some d =>
      rw [hd] at hf
      have hpre : pre (T.tellN k s (T.at d).ents).1 O := by rw [← hf]; exact tellL_pre
      obtain ⟨g1, g2⟩ := fol_fold hg ht hO h hc hd hpre _ (Nat.le_refl _)
      rw [List.take_length] at g1 g2
      obtain ⟨g3, g4⟩ := fol_next (pre_get (tellN_pre (T := T) k) hd) g1 g2
      exact fol_end hg ht hO f (k + 1) _ (by omega) g3 g4 hf
theorem fold_ti {T : Tab} (ht : T.tree) : ∀ (f k : Nat) (s : List Int × List Raw), TI T s → TI T (T.tellL f k s)
  | 0, k, s, h => h
  | f + 1, k, s, h => by
    rw [Tab.tellL]
    cases hd : s.1[k]? with
    | none => exact h
    | some d => exact fold_ti ht f (k + 1) _ (TI.fold k h fun e he => ht.ents d e.node ⟨e, he, rfl⟩)
theorem new_at (V i : Int) : (Tab.new V).at i = Node.zero := by
  by_cases q : 1 ≤ i
  · rw [at_nd q, nd_new]
  · refine at_none ?_
    cases hh : (Tab.new V).has i with
    | false => rfl
    | true => have := has_rng hh; omega
theorem new_free (V : Int) : (Tab.new V).free = some 0 := by
  have h24 := (new_wf V).2.1
  refine free_some (by omega) (fun j hj => absurd hj (Nat.not_lt_zero _)) ?_
  cases hh : (Tab.new V).has (((0 : Nat) : Int) + 1) with
  | false => rfl
  | true =>
    have := has_kind'.1 hh
    rw [new_at] at this
    exact absurd rfl this
theorem fol_first {T : Tab} (hg : T.good) (ht : T.tree) {O : List Int} (hO : O.Nodup) (hpre : pre [1] O) {room : Int} (hr : T.room = (Tab.new room).room) : Fol T O room 0 0 T.tell0 := by
  have hh : T.has 1 = true := has_kind'.2 (by rw [ht.root]; decide)
  have hok : nodeOk (T.at 1) = true := by
    rcases at_zero_ok hg 1 with z | z
    · have := ht.root; rw [z] at this; cases this
    · exact z
  have hmk : (T.rawOf 1 0 ⟨#[]⟩).made = { T.at 1 with ents := [] } := rfl
  have hadd : (Tab.new room).add (T.rawOf 1 0 ⟨#[]⟩).made = ((Tab.new room).put 0 (T.rawOf 1 0 ⟨#[]⟩).made, 1, 0) := by
    unfold Tab.add; rw [hmk, if_pos (bare_ok hok), new_free]; rfl
  have he0 : ((Tab.new room).add (T.rawOf 1 0 ⟨#[]⟩).made).2.2 = 0 := by rw [hadd]
  obtain ⟨b1, b2, b3⟩ := bt_first (r := T.rawOf 1 0 ⟨#[]⟩) ht.root he0
  refine ⟨TI.first ht, ⟨((Tab.new room).add (T.rawOf 1 0 ⟨#[]⟩).made).1, ?_, b1, by rw [b3, hr], fun q d hq => ?_⟩, fun i hi hne => ?_⟩
  · show (build room [T.rawOf 1 0 ⟨#[]⟩]).1 = _
    rw [build_cons, if_neg (by
      rintro (h | h | h)
      · exact h ht.root
      · exact h rfl
      · exact h rfl), if_neg (fun q => q he0)]
    rfl
  · have hq0 : q = 0 := by
      have := (List.getElem?_eq_some_iff.1 hq).1
      simp only [Tab.tell0, List.length_cons, List.length_nil] at this
      omega
    subst hq0
    have hd1 : d = 1 := by
      have : some (1 : Int) = some d := hq
      cases this; rfl
    subst hd1
    rw [hadd]
    show ((Tab.new room).put 0 _).at _ = _
    rw [at_put (good_new room) (by have := (new_wf room).2.1; omega) (.inr (by rw [hmk]; exact bare_ok hok)), if_pos rfl, hmk]
    unfold cq mir
    rw [if_neg (by omega), if_pos rfl]
    rfl
  · have : i = 1 := by simpa [Tab.tell0] using hi
    exact absurd this hne
theorem clo_first (T : Tab) : Clo T 0 0 T.tell0 := fun q d c e _ _ h => by omega
/-- What is told builds a table that mirrors the tree. -/
theorem told_builds {T : Tab} (hg : T.good) (ht : T.tree) {room : Int} (hr : T.room = (Tab.new room).room) : ∃ (O : List Int) (U : Tab), O = (T.tellL 24 0 T.tell0).1 ∧ O.Nodup ∧ (∀ i ∈ O, T.has i = true) ∧ (build room T.tell).1 = some U ∧ BT U O.length ∧
    (∀ (q : Nat) (d : Int), O[q]? = some d → U.at ((q : Int) + 1) = mir T O (T.at d).ents.length d) ∧ (∀ d ∈ O, ∀ i, T.ent d i → i ∈ O) ∧ pre [1] O := by
  have hti := fold_ti ht 24 0 T.tell0 (TI.first ht)
  have hpre : pre [1] (T.tellL 24 0 T.tell0).1 := tellL_pre (T := T) (f := 24) (k := 0) (s := T.tell0)
  obtain ⟨k', h1, h2, h3⟩ := fol_end hg ht hti.nodup (room := room) 24 0 T.tell0 rfl (fol_first hg ht hti.nodup hpre hr) (clo_first T) rfl
  obtain ⟨U, hU, hS⟩ := h2.ex
  have htell : T.tell = (T.tellL 24 0 T.tell0).2 := by unfold Tab.tell; rw [if_pos ((right_iff hg).2 ht)]
  refine ⟨_, U, rfl, hti.nodup, hti.has, by rw [htell]; exact hU, hS.bt, fun q d hq => ?_, fun d hd i hi => ?_, hpre⟩
  · have hql := (List.getElem?_eq_some_iff.1 hq).1
    rw [hS.at_ q d hq]
    congr 1
    unfold cq
    rw [if_pos (by omega)]
  · obtain ⟨q, hq⟩ := List.mem_iff_getElem?.1 hd
    have hql := (List.getElem?_eq_some_iff.1 hq).1
    obtain ⟨e, he, rfl⟩ := hi
    obtain ⟨c, hc⟩ := List.mem_iff_getElem?.1 he
    exact h3 q d c e hq hc (.inl (by omega))
theorem all_in {T : Tab} (hg : T.good) (ht : T.tree) {O : List Int} (h1 : (1 : Int) ∈ O) (hc : ∀ d ∈ O, ∀ i, T.ent d i → i ∈ O) : ∀ i, T.has i = true → i ∈ O := by
  have hdk : ∀ d i, T.ent d i → (T.at d).kind = 2 := fun d i ⟨e, he, _⟩ => by
    rcases at_zero_ok hg d with z | z
    · rw [z] at he; cases he
    · by_cases q : (T.at d).kind = 2
      · exact q
      · rw [nodir_ents0 z q] at he; cases he
  have hdir : ∀ (n : Nat) (i : Int), (T.at i).kind = 2 → T.rooted n i = true → i ∈ O := by
    intro n
    induction n with
    | zero => intro i _ h; cases h
    | succ n ih =>
      intro i hk h
      rw [Tab.rooted] at h
      by_cases q : i = 1
      · rw [q]; exact h1
      · rw [if_neg q] at h
        have hl := (ht.dirs i hk q).1
        obtain ⟨d, hd⟩ := (links_pos hg.wf).1 (show 0 < T.links i by omega)
        have hp := one_parent hg.wf hl hd
        rw [hp] at h
        exact hc d (ih d (hdk d i hd) h) i hd
  have hdir2 : ∀ i, (T.at i).kind = 2 → i ∈ O := fun i hk => by
    by_cases q : i = 1
    · rw [q]; exact h1
    · exact hdir 24 i hk (ht.dirs i hk q).2
  intro i hi
  by_cases hk : (T.at i).kind = 2
  · exact hdir2 i hk
  · obtain ⟨d, hd⟩ := (links_pos hg.wf).1 (ht.others i hi hk)
    exact hc d (hdir2 d (hdk d i hd)) i hd
theorem cover : ∀ (n : Nat) (O : List Int), (∀ i, 1 ≤ i → i ≤ (n : Int) → i ∈ O) → n ≤ O.length
  | 0, _, _ => Nat.zero_le _
  | n + 1, O, h => by
    have hm := h ((n : Int) + 1) (by omega) (by omega)
    have := cover n (O.erase ((n : Int) + 1)) (fun i h1 h2 => (List.mem_erase_of_ne (by omega)).2 (h i h1 (by omega)))
    rw [List.length_erase_of_mem hm] at this
    have := List.length_pos_of_mem hm
    omega
end Abs
end Go.Proofs.Ytpifnlodilcgkaa

set_option linter.unusedVariables false
namespace Go.Proofs.Ytpifnlodilcgkaa
namespace Abs
set_option maxRecDepth 10000
attribute [local irreducible] AOps AW ACalls thenQ inBlk noGoto
/-! ### BuildAgain: how much is told -/
def sumO (f : Int → Nat) : List Int → Nat
  | [] => 0
  | a :: l => f a + sumO f l
def sumR (f : Int → Nat) : Nat → Nat
  | 0 => 0
  | n + 1 => sumR f n + f ((n : Int) + 1)
theorem sumO_erase (f : Int → Nat) {a : Int} : ∀ {l : List Int}, a ∈ l → sumO f l = f a + sumO f (l.erase a)
  | b :: l, h => by
    by_cases e : b = a
    · subst e; rw [List.erase_cons_head]; rfl
    · rw [List.erase_cons_tail (by simpa using e)]
      have hm : a ∈ l := by
        rcases List.mem_cons.1 h with h | h
        · exact absurd h.symm e
        · exact h
      show f b + sumO f l = f a + (f b + sumO f (l.erase a))
      rw [sumO_erase f hm]; omega
theorem sumO_app (f : Int → Nat) (a : Int) : ∀ l : List Int, sumO f (l ++ [a]) = sumO f l + f a
  | [] => by show f a + 0 = 0 + f a; omega
  | b :: l => by
    show f b + sumO f (l ++ [a]) = f b + sumO f l + f a
    rw [sumO_app f a l]; omega
theorem sum_perm (f : Int → Nat) : ∀ (n : Nat) (O : List Int), O.Nodup → (∀ x ∈ O, 1 ≤ x ∧ x ≤ n) → (∀ i, 1 ≤ i → i ≤ (n : Int) → i ∉ O → f i = 0) → sumO f O = sumR f n
  | 0, O, _, h, _ => by
    cases O with
    | nil => rfl
    | cons a l => have := h a List.mem_cons_self; omega
  | n + 1, O, hn, h, h0 => by
    rw [sumR]
    by_cases hm : ((n : Int) + 1) ∈ O
    · rw [sumO_erase f hm, sum_perm f n (O.erase ((n : Int) + 1)) (hn.erase _) (fun x hx => by
        have h2 := (hn.mem_erase_iff).1 hx
        have h3 := h x h2.2
        have h4 := h2.1
        omega) (fun i g1 g2 g3 => h0 i g1 (by omega) (fun q => g3 ((List.mem_erase_of_ne (by omega)).2 q)))]
      omega
    · rw [sum_perm f n O hn (fun x hx => by
        have h3 := h x hx
        have h4 : x ≠ (n : Int) + 1 := fun e => hm (e ▸ hx)
        omega) (fun i g1 g2 g3 => h0 i g1 (by omega) g3), h0 ((n : Int) + 1) (by omega) (by omega) hm]
      rfl
theorem all_sum (T : Tab) : ∀ n : Nat, (T.all n).length = sumR (fun d => (T.at d).ents.length) n
  | 0 => rfl
  | n + 1 => by
    rw [Tab.all, List.length_append, List.length_map, all_sum T n, sumR]; rfl
theorem sumL_lsum {T : Tab} (hg : T.good) (ht : T.tree) : ∀ n : Nat, T.sumL n = T.lsum n
  | 0 => rfl
  | n + 1 => by
    rw [Tab.sumL, Tab.lsum, sumL_lsum hg ht n]
    congr 1
    split
    · rfl
    · rename_i hh
      by_cases z : T.links ((n : Int) + 1) = 0
      · exact z
      · obtain ⟨d, hd⟩ := (links_pos hg.wf).1 (show 0 < T.links ((n : Int) + 1) by have := links_nonneg T ((n : Int) + 1); omega)
        exact absurd (ht.ents d _ hd) hh
theorem all_has {T : Tab} (hg : T.good) (ht : T.tree) : (T.all 24).all T.has = true := by
  refine List.all_eq_true.2 ?_
  suffices hk : ∀ n, ∀ x ∈ T.all n, T.has x = true from hk 24
  intro n
  induction n with
  | zero => intro x hx; cases hx
  | succ n ih =>
    intro x hx
    rw [Tab.all] at hx
    rcases List.mem_append.1 hx with hx | hx
    · exact ih x hx
    · obtain ⟨e, he, rfl⟩ := List.mem_map.1 hx
      exact ht.ents ((n : Int) + 1) e.node ⟨e, he, rfl⟩
theorem sumL_tree {T : Tab} (hg : T.good) (ht : T.tree) : T.sumL 24 = (sumR (fun d => (T.at d).ents.length) 24 : Nat) := by
  rw [sumL_lsum hg ht, (counts_law hg.wf).2 (all_has hg ht), all_sum]
theorem mirror_sum {T U : Tab} {O : List Int} (hb : BT U O.length) (hat : ∀ (q : Nat) (d : Int), O[q]? = some d → U.at ((q : Int) + 1) = mir T O (T.at d).ents.length d) : ∀ n : Nat, sumR (fun d => (U.at d).ents.length) n = sumO (fun d => (T.at d).ents.length) (O.take n)
  | 0 => rfl
  | n + 1 => by
    rw [sumR, mirror_sum hb hat n, List.take_add_one]
    cases h : O[n]? with
    | none =>
      have hl := List.getElem?_eq_none_iff.1 h
      have hz : U.at ((n : Int) + 1) = Node.zero := at_none (by
        cases hh : U.has ((n : Int) + 1) with
        | false => rfl
        | true => have := (hb.has _).1 hh; omega)
      rw [hz, Option.toList_none, List.append_nil]; rfl
    | some d =>
      rw [hat n d h, Option.toList_some, sumO_app]
      congr 1
      show (((T.at d).ents.take (T.at d).ents.length).map (ren O)).length = _
      rw [List.length_map, List.take_length]
/-! ### BuildAgain: what is told of what was built -/
def upO (n : Nat) : List Int := (List.range n).map fun q : Nat => (q : Int) + 1
theorem upO_len (n : Nat) : (upO n).length = n := by simp [upO]
theorem upO_succ (n : Nat) : upO n ++ [(n : Int) + 1] = upO (n + 1) := by
  unfold upO; rw [List.range_succ, List.map_append]; rfl
theorem upO_get {n p : Nat} (h : p < n) : (upO n)[p]? = some ((p : Int) + 1) := by
  unfold upO
  rw [List.getElem?_map, List.getElem?_range h]; rfl
theorem upO_place {n p : Nat} (h : p < n) : placeI (upO n) ((p : Int) + 1) = some p := by
  refine placeI_some (by rw [upO_len]; exact h) (by simp [upO]) fun j hj hjp => ?_
  simp only [upO, List.getElem_map, List.getElem_range]
  omega
theorem upO_none (n : Nat) : placeI (upO n) ((n : Int) + 1) = none := by
  refine placeI_none.2 fun h => ?_
  obtain ⟨q, hq, e⟩ := List.mem_map.1 h
  rw [List.mem_range] at hq
  omega
theorem tellE_mir {T U : Tab} {O : List Int} (hO : O.Nodup) (hat : ∀ (q : Nat) (d : Int), O[q]? = some d → U.at ((q : Int) + 1) = mir T O (T.at d).ents.length d) {k : Nat} {s : List Int × List Raw} {e : Ent} (hp : pre (T.tellE k s e).1 O) :
    U.tellE k (upO s.1.length, s.2) (ren O e) = (upO (T.tellE k s e).1.length, (T.tellE k s e).2) := by
  cases hpl : placeI s.1 e.node with
  | some p =>
    have hE : T.tellE k s e = (s.1, s.2 ++ [againR ((k : Int) + 1) e.name ((p : Int) + 1)]) := by unfold Tab.tellE; rw [hpl]
    rw [hE] at hp ⊢
    have hg := placeI_get hpl
    have hrho : rho O e.node = (p : Int) + 1 := rho_get hO (pre_get hp hg)
    unfold Tab.tellE
    show (match placeI (upO s.1.length) (rho O e.node) with | some j => _ | none => _) = _
    rw [hrho, upO_place (List.getElem?_eq_some_iff.1 hg).1]
    rfl
  | none =>
    have hE : T.tellE k s e = (s.1 ++ [e.node], s.2 ++ [T.rawOf e.node ((k : Int) + 1) e.name]) := by unfold Tab.tellE; rw [hpl]
    rw [hE] at hp ⊢
    have hOg : O[s.1.length]? = some e.node := pre_get hp (by
      show (s.1 ++ [e.node])[s.1.length]? = _
      rw [List.getElem?_append_right (Nat.le_refl _), Nat.sub_self]; rfl)
    have hrho : rho O e.node = (s.1.length : Int) + 1 := rho_get hO hOg
    have hm := hat _ _ hOg
    unfold Tab.tellE
    show (match placeI (upO s.1.length) (rho O e.node) with | some j => _ | none => (upO s.1.length ++ [rho O e.node], s.2 ++ [U.rawOf (rho O e.node) ((k : Int) + 1) e.name])) = _
    rw [hrho, upO_none]
    show (upO s.1.length ++ [(s.1.length : Int) + 1], s.2 ++ [U.rawOf ((s.1.length : Int) + 1) ((k : Int) + 1) e.name]) = _
    rw [upO_succ, List.length_append]
    unfold Tab.rawOf
    rw [hm]
    rfl
theorem tellN_mir {T U : Tab} {O : List Int} (hO : O.Nodup) (hat : ∀ (q : Nat) (d : Int), O[q]? = some d → U.at ((q : Int) + 1) = mir T O (T.at d).ents.length d) {k : Nat} : ∀ {l : List Ent} {s : List Int × List Raw}, pre (T.tellN k s l).1 O →
    U.tellN k (upO s.1.length, s.2) (l.map (ren O)) = (upO (T.tellN k s l).1.length, (T.tellN k s l).2)
  | [], s, _ => rfl
  | e :: l, s, hp => by
    have hp1 : pre (T.tellE k s e).1 O := pre_trans (tellN_pre (l := l) (s := T.tellE k s e) k) hp
    show U.tellN k (U.tellE k (upO s.1.length, s.2) (ren O e)) (l.map (ren O)) = _
    rw [tellE_mir hO hat hp1]
    exact tellN_mir (l := l) (s := T.tellE k s e) hO hat hp
theorem tellL_mir {T U : Tab} {O : List Int} (hO : O.Nodup) (hat : ∀ (q : Nat) (d : Int), O[q]? = some d → U.at ((q : Int) + 1) = mir T O (T.at d).ents.length d) : ∀ (f k : Nat) (s : List Int × List Raw), pre (T.tellL f k s).1 O →
    U.tellL f k (upO s.1.length, s.2) = (upO (T.tellL f k s).1.length, (T.tellL f k s).2)
  | 0, k, s, _ => rfl
  | f + 1, k, s, hp => by
    cases hd : s.1[k]? with
    | none =>
      have hl := List.getElem?_eq_none_iff.1 hd
      rw [tellL_end hl, tellL_end (by rw [upO_len]; exact hl)]
    | some d =>
      have hk := (List.getElem?_eq_some_iff.1 hd).1
      have hT : T.tellL (f + 1) k s = T.tellL f (k + 1) (T.tellN k s (T.at d).ents) := by rw [Tab.tellL, hd]
      rw [hT] at hp ⊢
      have hpn : pre (T.tellN k s (T.at d).ents).1 O := pre_trans (tellL_pre (f := f) (k := k + 1)) hp
      have hm := hat k d (pre_get (pre_trans (tellN_pre (T := T) k (l := (T.at d).ents) (s := s)) hpn) hd)
      have hU : U.tellL (f + 1) k (upO s.1.length, s.2) = U.tellL f (k + 1) (U.tellN k (upO s.1.length, s.2) (U.at ((k : Int) + 1)).ents) := by
        rw [Tab.tellL]
        show (match (upO s.1.length)[k]? with | none => _ | some d => _) = _
        rw [upO_get hk]
      rw [hU, hm]
      show U.tellL f (k + 1) (U.tellN k (upO s.1.length, s.2) (((T.at d).ents.take (T.at d).ents.length).map (ren O))) = _
      rw [List.take_length, tellN_mir hO hat hpn]
      exact tellL_mir hO hat f (k + 1) _ hp
theorem tellN_few {T : Tab} (hg : T.good) (k : Nat) : ∀ {l : List Ent} {s : List Int × List Raw}, (∀ e ∈ l, e.name.size ≤ 40) → (∀ r ∈ s.2, r.few) → ∀ r ∈ (T.tellN k s l).2, r.few
  | [], s, _, h => h
  | e :: l, s, he, h => by
    refine tellN_few hg k (l := l) (s := T.tellE k s e) (fun x hx => he x (List.mem_cons_of_mem _ hx)) ?_
    have hn := he e List.mem_cons_self
    unfold Tab.tellE
    split
    · intro r hr
      rcases List.mem_append.1 hr with hr | hr
      · exact h r hr
      · rw [List.mem_singleton.1 hr]; exact ⟨hn, Nat.zero_le _, Nat.zero_le _⟩
    · intro r hr
      rcases List.mem_append.1 hr with hr | hr
      · exact h r hr
      · rw [List.mem_singleton.1 hr]
        have hf := at_few hg e.node
        exact ⟨hn, hf.2.1, hf.2.2.1⟩
theorem tellL_few {T : Tab} (hg : T.good) : ∀ (f k : Nat) (s : List Int × List Raw), (∀ r ∈ s.2, r.few) → ∀ r ∈ (T.tellL f k s).2, r.few
  | 0, k, s, h => h
  | f + 1, k, s, h => by
    rw [Tab.tellL]
    cases hd : s.1[k]? with
    | none => exact h
    | some d => exact tellL_few hg f (k + 1) _ (tellN_few hg k (at_few hg d).2.2.2 h)
theorem tell_few {T : Tab} (hg : T.good) : ∀ r ∈ T.tell, r.few := by
  unfold Tab.tell
  split
  · refine tellL_few hg 24 0 T.tell0 fun r hr => ?_
    have : r = T.rawOf 1 0 ⟨#[]⟩ := by simpa [Tab.tell0] using hr
    rw [this]
    have hf := at_few hg 1
    exact ⟨Nat.zero_le _, hf.2.1, hf.2.2.1⟩
  · intro r hr; cases hr
/-- The law of BuildAgain. -/
theorem again_law {room : Int} {l : List Raw} {T : Tab} (h : (build room l).1 = some T) : ∃ U, (build room T.tell).1 = some U ∧ U.used = T.used ∧ U.tell = T.tell ∧ T.tell.length = l.length := by
  have hg := good_build h
  have ht := build_tree h
  obtain ⟨b1, b2, b3⟩ := bt_build2 h
  obtain ⟨O, U, hOd, hO, hOh, hU, hb, hat, hc, hpre⟩ := told_builds hg ht b3
  have h1 : O[0]? = some 1 := pre_get hpre rfl
  have hin := all_in hg ht (List.mem_of_getElem? h1) hc
  have hgU := hb.good
  have htU := hb.tree
  obtain ⟨c1, c2, c3⟩ := bt_build2 hU
  have h24 := hg.wf.2.1
  have hrm := b1.room
  have hOr : ∀ x ∈ O, 1 ≤ x ∧ x ≤ ((cntN l : Nat) : Int) := fun x hx => (b1.has x).1 (hOh x hx)
  have hlen : O.length = cntN l := by
    have g1 := phpI (cntN l) O hO hOr
    have g2 := cover (cntN l) O (fun i g3 g4 => hin i ((b1.has i).2 ⟨g3, g4⟩))
    omega
  refine ⟨U, hU, by rw [bt_used hb, bt_used b1, hlen], ?_, ?_⟩
  · have hm := tellL_mir hO hat 24 0 T.tell0 (by rw [← hOd]; exact pre_refl O)
    have hm1 := hat 0 1 h1
    have h0 : U.tell0 = (upO T.tell0.1.length, T.tell0.2) := by
      unfold Tab.tell0 Tab.rawOf
      rw [show (1 : Int) = ((0 : Nat) : Int) + 1 from rfl, hm1]
      rfl
    unfold Tab.tell
    rw [if_pos ((right_iff hgU).2 htU), if_pos ((right_iff hg).2 ht), h0, hm]
  · have s1 := sumL_tree hg ht
    have s2 := sumL_tree hgU htU
    rw [mirror_sum hb hat 24, List.take_of_length_le (by omega)] at s2
    rw [sum_perm _ 24 O hO (fun x hx => by have := hOr x hx; omega) (fun i g1 g2 g3 => by
      have : T.has i = false := by
        cases hh : T.has i with
        | false => rfl
        | true => exact absurd (hin i hh) g3
      simp only [at_none this]; rfl)] at s2
    omega
end Abs
end Go.Proofs.Ytpifnlodilcgkaa
