import Derived.Test.YtpmnfbgnlanpoaaGF
import Derived.Test.YtpmnfbgnlanpoaaGB
import Derived.Test.YtpmnfbgnlanpoaaM7
import Derived.Test.YtpmnfbgnlanpoaaZ3
set_option linter.unusedVariables false
namespace Go.Proofs.Ytpmnfbgnlanpoaa
namespace Abs
set_option maxRecDepth 10000
attribute [local irreducible] AOps AW ACalls thenQ inBlk noGoto

/-! ### entries that are cut and moved: plain law -/
def Node.rid (n : Node) (name : ByteArray) : Node := { n with ents := n.ents.filter fun e => !decide (e.name = name) }
theorem place_some_iff {n : Node} {name : ByteArray} : (n.place name).isSome = true ↔ ∃ e ∈ n.ents, e.name = name := by
  constructor
  · intro h
    obtain ⟨k, hk⟩ := Option.isSome_iff_exists.1 h
    obtain ⟨h1, h2⟩ := place_lt hk
    exact ⟨_, List.getElem_mem h1, h2⟩
  · rintro ⟨e, he, hn⟩
    cases hp : n.place name with
    | some k => rfl
    | none => exact absurd hn (place_none hp e he)
theorem withoutE_iff {n : Node} {name : ByteArray} : n.withoutE name = 0 ↔ n.kind = 2 ∧ ∃ e ∈ n.ents, e.name = name := by
  unfold Node.withoutE
  by_cases hk : n.kind = 2
  · rw [if_neg (fun q => q hk)]
    by_cases hp : (n.place name).isSome = true
    · rw [if_pos hp]; exact ⟨fun _ => ⟨hk, place_some_iff.1 hp⟩, fun _ => rfl⟩
    · rw [if_neg hp]; exact ⟨fun q => absurd q (by decide), fun q => absurd (place_some_iff.2 q.2) hp⟩
  · rw [if_pos hk]; exact ⟨fun q => absurd q (by decide), fun q => absurd q.1 hk⟩
theorem find_of_mem {n : Node} (hr : rising n.ents = true) {e : Ent} (he : e ∈ n.ents) : n.find e.name = e.node := by
  obtain ⟨k, hk, rfl⟩ := List.mem_iff_getElem.1 he
  exact find_at hr hk
theorem find_has {n : Node} {name : ByteArray} (h : n.find name ≠ 0) : ∃ e ∈ n.ents, e.name = name ∧ e.node = n.find name := by
  unfold Node.find at h ⊢
  cases hp : n.place name with
  | none => rw [hp] at h; exact absurd rfl h
  | some k =>
    obtain ⟨h1, h2⟩ := place_lt hp
    exact ⟨n.ents[k], List.getElem_mem h1, h2, by simp only [List.getD_eq_getElem?_getD, List.getElem?_eq_getElem h1, Option.getD_some]⟩
theorem find_zero {n : Node} (hr : rising n.ents = true) {name : ByteArray} : n.find name = 0 ↔ ∀ e ∈ n.ents, e.name ≠ name := by
  constructor
  · intro h e he hn
    have h1 := find_of_mem hr he
    have h2 := (((rising_iff _).1 hr).1 e he).2
    rw [hn, h] at h1; omega
  · intro h
    by_cases hz : n.find name = 0
    · exact hz
    · obtain ⟨e, he, hn, _⟩ := find_has hz
      exact absurd hn (h e he)
theorem withoutE_find {n : Node} {name : ByteArray} (hk : n.kind = 2) (h : n.find name ≠ 0) : n.withoutE name = 0 := by
  obtain ⟨e, he, hn, _⟩ := find_has h
  exact withoutE_iff.2 ⟨hk, e, he, hn⟩
theorem filter_one {l : List Ent} (hp : l.Pairwise ltE) {k : Nat} (hk : k < l.length) : l.filter (fun e => !decide (e.name = l[k].name)) = l.take k ++ [] ++ l.drop (k + 1) := by
  have hs : l = l.take k ++ l[k] :: l.drop (k + 1) := by
    rw [← List.drop_eq_getElem_cons hk, List.take_append_drop]
  generalize l[k] = x at hs ⊢
  generalize l.take k = A at hs ⊢
  generalize l.drop (k + 1) = B at hs ⊢
  rw [hs] at hp ⊢
  rw [List.pairwise_append, List.pairwise_cons] at hp
  obtain ⟨h1, ⟨h2, h3⟩, h4⟩ := hp
  have ne_of : ∀ {a b : Ent}, ltE a b → a.name ≠ b.name := fun h e => by
    unfold ltE at h; rw [e] at h; exact List.lt_irrefl _ h
  rw [List.filter_append, List.filter_cons, if_neg (by simp)]
  rw [List.filter_eq_self.2 (fun a ha => by simpa using ne_of (h4 a ha x List.mem_cons_self)), List.filter_eq_self.2 (fun b hb => by simpa using (ne_of (h2 b hb)).symm), List.append_nil]
theorem withoutN_rid {n : Node} {name : ByteArray} (hr : rising n.ents = true) (h : n.withoutE name = 0) : n.withoutN name = n.rid name := by
  obtain ⟨hk, e, he, hn⟩ := withoutE_iff.1 h
  obtain ⟨k, hp⟩ := Option.isSome_iff_exists.1 (place_some_iff.2 ⟨e, he, hn⟩)
  obtain ⟨h1, h2⟩ := place_lt hp
  have hk2 : (n.kind == 2) = true := by simpa using hk
  have hf := filter_one ((rising_iff _).1 hr).2.1 h1
  rw [h2] at hf
  simp only [Node.withoutN, hp, hk2, Node.cut, Node.rid]
  rw [hf]
theorem rid_kind (n : Node) (name : ByteArray) : (n.rid name).kind = n.kind ∧ (n.rid name).mode = n.mode ∧ (n.rid name).uid = n.uid ∧ (n.rid name).gid = n.gid := ⟨rfl, rfl, rfl, rfl⟩
theorem mem_rid {n : Node} {name : ByteArray} {e : Ent} : e ∈ (n.rid name).ents ↔ e ∈ n.ents ∧ e.name ≠ name := by
  show e ∈ n.ents.filter _ ↔ _
  rw [List.mem_filter]; simp
theorem rid_ok {n : Node} {name : ByteArray} (ho : nodeOk n = true) (hk : n.kind = 2) : nodeOk (n.rid name) = true := by
  have hr := ((dirOk_iff hk).1 ho).2.2.2
  obtain ⟨r1, r2, r3⟩ := (rising_iff _).1 hr
  refine dirOk_ents hk ho ((rising_iff _).2 ⟨fun e he => r1 e ((List.mem_filter.1 he).1), r2.filter _, ?_⟩)
  have := List.length_filter_le (fun e : Ent => !decide (e.name = name)) n.ents
  omega
theorem rid_find {n : Node} (hr : rising n.ents = true) {a b : ByteArray} (hr2 : rising (n.rid a).ents = true) : (n.rid a).find b = if b = a then 0 else n.find b := by
  by_cases h : b = a
  · rw [if_pos h]
    exact (find_zero hr2).2 (fun e he => by rw [h]; exact (mem_rid.1 he).2)
  · rw [if_neg h]
    by_cases hz : n.find b = 0
    · rw [hz]
      exact (find_zero hr2).2 (fun e he => (find_zero hr).1 hz e (mem_rid.1 he).1)
    · obtain ⟨e, he, hn, hnode⟩ := find_has hz
      have := find_of_mem hr2 (mem_rid.2 ⟨he, by rw [hn]; exact h⟩)
      rw [← hn, this, hnode, hn]
theorem rid_comm (n : Node) (a b : ByteArray) : (n.rid a).rid b = (n.rid b).rid a := by
  unfold Node.rid
  simp only [List.filter_filter, Bool.and_comm]
theorem rid_len {n : Node} {name : ByteArray} (h : ∃ e ∈ n.ents, e.name = name) : (n.rid name).ents.length < n.ents.length := by
  obtain ⟨e, he, hn⟩ := h
  show (n.ents.filter _).length < _
  refine Nat.lt_of_le_of_ne (List.length_filter_le _ _) (fun q => ?_)
  have := List.length_filter_eq_length_iff.1 q e he
  simp [hn] at this
theorem dir_rising {T : Tab} (hg : T.good) {i : Int} (hk : (T.at i).kind = 2) : T.has i = true ∧ nodeOk (T.at i) = true ∧ rising (T.at i).ents = true := by
  have hh : T.has i = true := has_kind'.2 (by rw [hk]; decide)
  rcases at_zero_ok hg i with z | z
  · rw [z] at hk; cases hk
  · exact ⟨hh, z, ((dirOk_iff hk).1 z).2.2.2⟩
theorem cut_spec {T : Tab} (hg : T.good) {dir : Int} {name : ByteArray} (h : (T.at dir).withoutE name = 0) :
    T.cut dir name = T.put (dir - 1).toNat ((T.at dir).rid name) ∧ nodeOk ((T.at dir).rid name) = true ∧ (T.cut dir name).good ∧ (T.cut dir name).room = T.room ∧ ∀ i, (T.cut dir name).at i = if i = dir then (T.at dir).rid name else T.at i := by
  have hk := (withoutE_iff.1 h).1
  obtain ⟨hh, ho, hr⟩ := dir_rising hg hk
  have hok := rid_ok (name := name) ho hk
  have hrng := has_rng hh
  have e : T.cut dir name = T.put (dir - 1).toNat ((T.at dir).rid name) := by
    unfold Tab.cut Tab.putE
    rw [if_pos h, if_pos hh, withoutN_rid hr h, if_pos hok]
  refine ⟨e, hok, good_cut hg _ _, by rw [e]; rfl, fun i => ?_⟩
  rw [e, at_put hg (by omega) (.inr hok), show (((dir - 1).toNat : Nat) : Int) + 1 = dir by omega]
theorem put_put_same (T : Tab) (k : Nat) (a b : Node) : (T.put k a).put k b = T.put k b := by unfold Tab.put; simp
theorem put_put_comm (T : Tab) {k j : Nat} (h : k ≠ j) (a b : Node) : (T.put k a).put j b = (T.put j b).put k a := by
  unfold Tab.put
  congr 1
  exact List.set_comm _ _ h
theorem cut_comm {T : Tab} (hg : T.good) {d1 d2 : Int} {a b : ByteArray} (h1 : (T.at d1).withoutE a = 0) (h2 : (T.at d2).withoutE b = 0) (hne : ¬ (d1 = d2 ∧ a = b)) :
    (T.cut d1 a).cut d2 b = (T.cut d2 b).cut d1 a ∧ ((T.cut d1 a).at d2).withoutE b = 0 ∧ ((T.cut d2 b).at d1).withoutE a = 0 := by
  obtain ⟨e1, o1, g1, r1, at1⟩ := cut_spec hg h1
  obtain ⟨e2, o2, g2, r2, at2⟩ := cut_spec hg h2
  obtain ⟨k1, x1', m1, n1'⟩ := withoutE_iff.1 h1
  obtain ⟨k2, x2', m2, n2'⟩ := withoutE_iff.1 h2
  have f1 := has_rng (dir_rising hg k1).1
  have f2 := has_rng (dir_rising hg k2).1
  have w12 : ((T.cut d1 a).at d2).withoutE b = 0 := by
    rw [at1]
    by_cases hd : d2 = d1
    · rw [if_pos hd]
      subst hd
      exact withoutE_iff.2 ⟨k1, x2', mem_rid.2 ⟨m2, fun q => hne ⟨rfl, by rw [← q, n2']⟩⟩, n2'⟩
    · rw [if_neg hd]; exact h2
  have w21 : ((T.cut d2 b).at d1).withoutE a = 0 := by
    rw [at2]
    by_cases hd : d1 = d2
    · rw [if_pos hd]
      subst hd
      exact withoutE_iff.2 ⟨k1, x1', mem_rid.2 ⟨m1, fun q => hne ⟨rfl, by rw [← n1', q]⟩⟩, n1'⟩
    · rw [if_neg hd]; exact h1
  refine ⟨?_, w12, w21⟩
  obtain ⟨e3, _, _, _, _⟩ := cut_spec g1 w12
  obtain ⟨e4, _, _, _, _⟩ := cut_spec g2 w21
  rw [e3, e4, at1, at2]
  by_cases hd : d2 = d1
  · subst hd
    rw [if_pos rfl, if_pos rfl, e1, e2, put_put_same, put_put_same, rid_comm]
  · rw [if_neg hd, if_neg (fun q => hd q.symm), e1, e2]
    exact put_put_comm T (show (d1 - 1).toNat ≠ (d2 - 1).toNat by omega) _ _
/-! ### names that are found may be names -/
def NameSl (x : ByteArray) : Prop := hasB x 47 = false ∧ hasB x 0 = false
theorem has_iffL (x : ByteArray) (b : UInt8) : hasB x b = (byL x).contains b := rfl
theorem splitL_sl : ∀ (r cur : List UInt8), (∀ c ∈ r, c ≠ 0) → (∀ c ∈ cur, c ≠ 47 ∧ c ≠ 0) → ∀ x ∈ splitL cur r, ∀ c ∈ x, c ≠ 47 ∧ c ≠ 0
  | [], cur, hr, hc, x, hx => by
    simp only [splitL] at hx
    split at hx
    · cases hx
    · rw [List.mem_singleton.1 hx]; exact hc
  | c :: r, cur, hr, hc, x, hx => by
    have hr' : ∀ d ∈ r, d ≠ 0 := fun d hd => hr d (List.mem_cons_of_mem _ hd)
    simp only [splitL] at hx
    split at hx
    · split at hx
      · exact splitL_sl r [] hr' (fun d hd => by cases hd) x hx
      · rcases List.mem_cons.1 hx with rfl | hx
        · exact hc
        · exact splitL_sl r [] hr' (fun d hd => by cases hd) x hx
    · rename_i h47
      refine splitL_sl r _ hr' (fun d hd => ?_) x hx
      rcases List.mem_append.1 hd with hd | hd
      · exact hc d hd
      · rw [List.mem_singleton.1 hd]; exact ⟨h47, hr c List.mem_cons_self⟩
theorem contains_false {l : List UInt8} {b : UInt8} (h : ∀ c ∈ l, c ≠ b) : l.contains b = false := by
  cases hq : l.contains b with
  | false => rfl
  | true => exact absurd rfl (h b (List.contains_iff_mem.1 hq))
theorem splitOf_sl {s : ByteArray} (h : hasB s 0 = false) : ∀ x ∈ splitOf s, NameSl x := by
  have h0 : ∀ c ∈ byL s, c ≠ 0 := has_not h
  have hn : ∀ x ∈ namesOf s, NameSl x := fun x hx => by
    obtain ⟨y, hy, rfl⟩ := List.mem_map.1 hx
    have := splitL_sl _ _ h0 (fun d hd => by cases hd) y hy
    refine ⟨?_, ?_⟩ <;> rw [has_iffL, byL_ofL]
    · exact contains_false (fun c hc => (this c hc).1)
    · exact contains_false (fun c hc => (this c hc).2)
  intro x hx
  unfold splitOf at hx
  split at hx
  · rcases List.mem_append.1 hx with hx | hx
    · exact hn x hx
    · rw [List.mem_singleton.1 hx]; exact ⟨by decide, by decide⟩
  · exact hn x hx
theorem link_fits {T : Tab} (hg : T.good) {i : Int} (hk : (T.at i).kind = 3) : fitsOk (T.at i).target = true := by
  rcases at_zero_ok hg i with z | z
  · rw [z] at hk; cases hk
  · unfold nodeOk at z
    rw [hk, if_neg (by decide), if_neg (by decide), if_pos rfl] at z
    simp only [Bool.and_eq_true] at z
    exact z.2.2
theorem fits_nul {t : ByteArray} (h : fitsOk t = true) : hasB t 0 = false := by
  unfold fitsOk at h
  simp only [Bool.and_eq_true, Bool.not_eq_true', decide_eq_false_iff_not, decide_eq_true_eq] at h
  exact h.2
theorem take_sl {T : Tab} (hg : T.good) {c : Cred} {fo : Bool} {s : RSt} {name : ByteArray} {rest : List ByteArray} (h : ∀ x ∈ s.left, NameSl x ∧ x ≠ ⟨#[]⟩) (hl : s.left = name :: rest) :
    (∀ s', T.take c fo s name rest = .inl s' → ∀ x ∈ s'.left, NameSl x ∧ x ≠ ⟨#[]⟩) ∧ (∀ r, T.take c fo s name rest = .inr r → r.2 = 0 → nameOk r.1.name = true) := by
  have hr : ∀ x ∈ rest, NameSl x ∧ x ≠ ⟨#[]⟩ := fun x hx => h x (by rw [hl]; exact List.mem_cons_of_mem _ hx)
  have hn := h name (by rw [hl]; exact List.mem_cons_self)
  have bad : ∀ (e : Int) (r : Found × Int), e ≠ 0 → (Sum.inr (Found.zero, e) : Sum RSt (Found × Int)) = .inr r → r.2 = 0 → nameOk r.1.name = true := fun e r he q z => by cases q; exact absurd z he
  unfold Tab.take
  by_cases k1 : ¬ (T.at s.pos).kind = 2
  · rw [if_pos k1]; exact ⟨fun s' e => (by cases e), fun r e => bad _ r (by decide) e⟩
  rw [if_neg k1]
  by_cases k2 : T.can c s.pos 1 = false
  · rw [if_pos k2]; exact ⟨fun s' e => (by cases e), fun r e => bad _ r (by decide) e⟩
  rw [if_neg k2]
  by_cases k3 : name = dotS
  · rw [if_pos k3]; exact ⟨fun s' e => by cases e; exact hr, fun r e => by cases e⟩
  rw [if_neg k3]
  by_cases k4 : name = dotdotS
  · rw [if_pos k4]; exact ⟨fun s' e => by cases e; exact hr, fun r e => by cases e⟩
  rw [if_neg k4]
  by_cases k5 : 12 < (name.size : Int)
  · rw [if_pos k5]; exact ⟨fun s' e => (by cases e), fun r e => bad _ r (by decide) e⟩
  rw [if_neg k5]
  by_cases k6 : (T.at s.pos).find name = 0 ∧ 0 < rest.length
  · rw [if_pos k6]; exact ⟨fun s' e => (by cases e), fun r e => bad _ r (by decide) e⟩
  rw [if_neg k6]
  by_cases k7 : (T.at ((T.at s.pos).find name)).kind = 3 ∧ (fo = true ∨ 0 < rest.length)
  · rw [if_pos k7]
    by_cases k8 : s.links = 8
    · rw [if_pos k8]; exact ⟨fun s' e => (by cases e), fun r e => bad _ r (by decide) e⟩
    rw [if_neg k8]
    refine ⟨fun s' e => ?_, fun r e => by cases e⟩
    cases e
    intro x hx
    rcases List.mem_append.1 hx with hx | hx
    · exact ⟨splitOf_sl (fits_nul (link_fits hg k7.1)) x hx, splitOf_ne _ x hx⟩
    · exact hr x hx
  rw [if_neg k7]
  by_cases k9 : rest.length = 0
  · rw [if_pos k9]
    refine ⟨fun s' e => (by cases e), fun r e _ => ?_⟩
    cases e
    have hz : (name.size : Int) ≤ 12 := by omega
    simp only [nameOk, Bool.and_eq_true, Bool.not_eq_true', decide_eq_false_iff_not, decide_eq_true_eq, Bool.or_eq_false_iff]
    exact ⟨⟨⟨⟨hn.2, hz⟩, k3⟩, k4⟩, hn.1⟩
  rw [if_neg k9]
  exact ⟨fun s' e => by cases e; exact hr, fun r e => by cases e⟩
theorem walk_sl {T : Tab} (hg : T.good) {c : Cred} {fo : Bool} : ∀ (f : Nat) (s : RSt), (∀ x ∈ s.left, NameSl x ∧ x ≠ ⟨#[]⟩) → (T.walk c fo f s).2 = 0 → (T.walk c fo f s).1.name ≠ ⟨#[]⟩ → nameOk (T.walk c fo f s).1.name = true
  | 0, s, _, _, h => absurd rfl h
  | f + 1, s, h, h0, hne => by
    cases hq : s.left with
    | nil => rw [walk_end hq] at hne; exact absurd rfl hne
    | cons name rest =>
      rw [walk_step hq] at h0 hne ⊢
      obtain ⟨t1, t2⟩ := take_sl (c := c) (fo := fo) hg h hq
      cases hk : T.take c fo s name rest with
      | inr r => rw [hk] at h0; exact t2 r hk h0
      | inl s' => rw [hk] at h0 hne; exact walk_sl hg f s' (t1 s' hk) h0 hne
theorem resolve_nameOk {T : Tab} (hg : T.good) {c : Cred} {path : ByteArray} {fo : Bool} (h : (T.resolve c path fo).2 = 0) (hne : (T.resolve c path fo).1.name ≠ ⟨#[]⟩) : nameOk (T.resolve c path fo).1.name = true := by
  unfold Tab.resolve at h hne ⊢
  split at h
  · rename_i hf
    rw [if_pos hf] at hne ⊢
    have h0 : hasB path 0 = false := by
      unfold Tab.fitsE at hf
      split at hf
      · cases hf
      · split at hf
        · cases hf
        · split at hf
          · cases hf
          · rename_i q; simpa using q
    exact walk_sl hg 2000 _ (fun x hx => ⟨splitOf_sl h0 x hx, splitOf_ne _ x hx⟩) h hne
  · exact absurd h (by assumption)
theorem withE_ok {n : Node} {name : ByteArray} {id : Int} (hk : n.kind = 2) (hn : nameOk name = true) (hid : 1 ≤ id) (hno : ∀ e ∈ n.ents, e.name ≠ name) (hl : n.ents.length < 8) : n.withE name id = 0 := by
  have hn' := hn
  simp only [nameOk, Bool.and_eq_true, Bool.not_eq_true', decide_eq_false_iff_not, decide_eq_true_eq, Bool.or_eq_false_iff] at hn'
  obtain ⟨⟨⟨⟨h1, h2⟩, h3⟩, h4⟩, h5, h6⟩ := hn'
  have hb : badName name id = false := by
    simp only [badName, Bool.or_eq_false_iff, decide_eq_false_iff_not]
    exact ⟨⟨⟨⟨by omega, h1⟩, h3⟩, h4⟩, h5, h6⟩
  unfold Node.withE
  rw [if_neg (fun q => q hk), if_neg (by rw [hb]; decide), if_neg (by omega), if_neg (fun q => by obtain ⟨e, he, hh⟩ := place_some_iff.1 q; exact hno e he hh), if_neg (by omega)]
/-! ### what may be taken -/
structure TakeAt (T : Tab) (f : Found) : Prop where
  kind : (T.at f.dir).kind = 2
  wo : (T.at f.dir).withoutE f.name = 0
  find : (T.at f.dir).find f.name = f.node
  node : f.node ≠ 0
  has : T.has f.node = true
  ent : T.ent f.dir f.node
theorem take_at {T : Tab} (hg : T.good) (ht : T.tree) {c : Cred} {path : ByteArray} {fo : Bool} (h0 : (T.resolve c path fo).2 = 0) (hn : (T.resolve c path fo).1.node ≠ 0) (hne : (T.resolve c path fo).1.name ≠ ⟨#[]⟩) : TakeAt T (T.resolve c path fo).1 := by
  rcases resolve_srch hg ht c path fo with ⟨h1, _⟩ | ⟨_, h2, _, h3⟩
  · exact absurd h0 h1
  · rcases h3 with ⟨h4, _⟩ | ⟨_, _, h5, _⟩
    · exact absurd h4 hne
    · have hf : (T.at (T.resolve c path fo).1.dir).find (T.resolve c path fo).1.name ≠ 0 := by rw [h5]; exact hn
      have he := find_ent hf
      rw [h5] at he
      exact ⟨h2, withoutE_find h2 hf, h5, hn, ht.ents _ _ he, he⟩
theorem pfind_zero {T : Tab} {c : Cred} {r : Found × Int} (h : T.pfindE c r = 0) : r.2 = 0 ∧ r.1.node ≠ 0 ∧ r.1.name ≠ ⟨#[]⟩ ∧ T.can c r.1.dir 2 = true ∧ T.mayTake c r.1 = true := by
  unfold Tab.pfindE at h
  split at h
  · rename_i q; exact absurd h q
  rename_i q1
  split at h
  · cases h
  rename_i q2
  split at h
  · cases h
  rename_i q3
  split at h
  · cases h
  rename_i q4
  split at h
  · cases h
  rename_i q5
  exact ⟨Decidable.of_not_not q1, q2, q3, by simpa using q4, by simpa using q5⟩
end Abs
end Go.Proofs.Ytpmnfbgnlanpoaa

set_option linter.unusedVariables false
namespace Go.Proofs.Ytpmnfbgnlanpoaa
namespace Abs
set_option maxRecDepth 10000
attribute [local irreducible] AOps AW ACalls thenQ inBlk noGoto

/-! ### an entry that is moved: plain law -/
structure MoveF (T : Tab) (c : Cred) (p q : Found) : Prop where
  pat : TakeAt T p
  qdir : (T.at q.dir).kind = 2
  qname : nameOk q.name = true
  qat : q.node ≠ 0 → TakeAt T q
  qnone : q.node = 0 → (T.at q.dir).find q.name = 0
  ne : q.node ≠ p.node
  nb : (T.at p.node).kind = 2 → T.below 24 q.dir p.node = false
  room : q.node = 0 → q.dir ≠ p.dir → (T.at q.dir).ents.length < 8
  over : q.node ≠ 0 → T.overE c p q = 0
  pmay : T.mayTake c p = true
  qcan : T.can c q.dir 3 = true
theorem move_facts {T : Tab} (hg : T.good) (ht : T.tree) {c : Cred} {fr tg : ByteArray} {p q : Found × Int} (hp : p = T.resolve c fr false) (hq : q = T.resolve c tg false) (hE : T.renameE c p q = 0) (hd : ¬ q.1.node = p.1.node) : MoveF T c p.1 q.1 := by
  unfold Tab.renameE at hE
  split at hE
  · rename_i h; exact absurd hE h
  rename_i h1
  have h1 : T.pfindE c p = 0 := Decidable.of_not_not h1
  obtain ⟨a1, a2, a3, a4, a5⟩ := pfind_zero h1
  split at hE
  · rename_i h; exact absurd hE h
  rename_i h2
  have h2 : q.2 = 0 := Decidable.of_not_not h2
  split at hE
  · cases hE
  rename_i h3
  split at hE
  · cases hE
  rename_i h4
  split at hE
  · cases hE
  rename_i h5
  split at hE
  · cases hE
  rename_i h6
  have hP : TakeAt T p.1 := by rw [hp] at a1 a2 a3 ⊢; exact take_at hg ht a1 a2 a3
  have hQ : q.1.node ≠ 0 → TakeAt T q.1 := fun h => by rw [hq] at h2 h h3 ⊢; exact take_at hg ht h2 h h3
  have hqd : (T.at q.1.dir).kind = 2 ∧ (q.1.node = 0 → (T.at q.1.dir).find q.1.name = 0) := by
    rw [hq] at h2 h3 ⊢
    rcases resolve_srch hg ht c tg false with ⟨z, _⟩ | ⟨_, z2, _, z3⟩
    · exact absurd h2 z
    · refine ⟨z2, fun z => ?_⟩
      rcases z3 with ⟨z4, _⟩ | ⟨_, _, z5, _⟩
      · exact absurd z4 h3
      · rw [z5]; exact z
  refine ⟨hP, hqd.1, by rw [hq] at h2 h3 ⊢; exact resolve_nameOk hg h2 h3, hQ, hqd.2, hd, fun k => ?_, fun z1 z2 => ?_, fun z => ?_, a5, by simpa using h4⟩
  · cases hb : T.below 24 q.1.dir p.1.node with
    | false => rfl
    | true => exact absurd ⟨k, hb⟩ h5
  · have : ¬ 8 ≤ ((T.at q.1.dir).ents.length : Int) := fun z => h6 ⟨z1, z2, z⟩
    omega
  · rw [if_pos z] at hE; exact hE
def Tab.two (T : Tab) (p q : Found) : Tab := if q.node = 0 then T.cut p.dir p.name else (T.cut p.dir p.name).cut q.dir q.name
structure TwoF (T : Tab) (p q : Found) (B : Tab) : Prop where
  good : B.good
  room : B.room = T.room
  same : ∀ i, ∃ l, B.at i = { T.at i with ents := l }
  mem : ∀ i e, e ∈ (B.at i).ents ↔ e ∈ (T.at i).ents ∧ ¬ (i = p.dir ∧ e.name = p.name) ∧ ¬ (q.node ≠ 0 ∧ i = q.dir ∧ e.name = q.name)
  withE : (B.at q.dir).withE q.name p.node = 0
theorem names_apart {T : Tab} {c : Cred} {p q : Found} (h : MoveF T c p q) (hq : q.node ≠ 0) : ¬ (p.dir = q.dir ∧ p.name = q.name) := fun ⟨e1, e2⟩ => h.ne (by
  have := (h.qat hq).find
  rw [← e1, ← e2, h.pat.find] at this
  exact this.symm)
theorem dir_len {T : Tab} (hg : T.good) {i : Int} (hk : (T.at i).kind = 2) : (T.at i).ents.length ≤ 8 := ((rising_iff _).1 (dir_rising hg hk).2.2).2.2
theorem two_facts {T : Tab} (hg : T.good) {c : Cred} {p q : Found} (h : MoveF T c p q) : TwoF T p q (T.two p q) := by
  obtain ⟨e1, o1, g1, r1, at1⟩ := cut_spec hg h.pat.wo
  have hpn : 1 ≤ p.node := (has_rng h.pat.has).1
  by_cases hq : q.node = 0
  · have hB : T.two p q = T.cut p.dir p.name := if_pos hq
    rw [hB]
    have hmem : ∀ i e, e ∈ ((T.cut p.dir p.name).at i).ents ↔ e ∈ (T.at i).ents ∧ ¬ (i = p.dir ∧ e.name = p.name) ∧ ¬ (q.node ≠ 0 ∧ i = q.dir ∧ e.name = q.name) := fun i e => by
      rw [at1]
      by_cases hi : i = p.dir
      · rw [if_pos hi, hi, mem_rid]
        exact ⟨fun ⟨z1, z2⟩ => ⟨z1, fun z => z2 z.2, fun z => z.1 hq⟩, fun ⟨z1, z2, _⟩ => ⟨z1, fun z => z2 ⟨rfl, z⟩⟩⟩
      · rw [if_neg hi]
        exact ⟨fun z => ⟨z, fun y => hi y.1, fun y => y.1 hq⟩, fun z => z.1⟩
    have hkd : ((T.cut p.dir p.name).at q.dir).kind = 2 := by
      rw [at1]; split
      · rename_i z; rw [← z]; exact h.qdir
      · exact h.qdir
    refine ⟨g1, r1, fun i => ?_, hmem, withE_ok hkd h.qname hpn (fun e he hn => ?_) ?_⟩
    · rw [at1]; split
      · rename_i z; rw [z]; exact ⟨_, rfl⟩
      · exact ⟨_, rfl⟩
    · have h1 := ((hmem q.dir e).1 he).1
      exact (find_zero (dir_rising hg h.qdir).2.2).1 (h.qnone hq) e h1 hn
    · by_cases hdd : q.dir = p.dir
      · rw [at1, if_pos hdd]
        have h8 := dir_len hg h.pat.kind
        have := rid_len (withoutE_iff.1 h.pat.wo).2
        omega
      · rw [at1, if_neg hdd]; exact h.room hq hdd
  · have hB : T.two p q = (T.cut p.dir p.name).cut q.dir q.name := if_neg hq
    rw [hB]
    have hQ := h.qat hq
    obtain ⟨hc1, hc2, hc3⟩ := cut_comm hg h.pat.wo hQ.wo (names_apart h hq)
    obtain ⟨e2, o2, g2, r2, at2⟩ := cut_spec g1 hc2
    have hmem : ∀ i e, e ∈ (((T.cut p.dir p.name).cut q.dir q.name).at i).ents ↔ e ∈ (T.at i).ents ∧ ¬ (i = p.dir ∧ e.name = p.name) ∧ ¬ (q.node ≠ 0 ∧ i = q.dir ∧ e.name = q.name) := fun i e => by
      rw [at2]
      have m1 : ∀ i, e ∈ ((T.cut p.dir p.name).at i).ents ↔ e ∈ (T.at i).ents ∧ ¬ (i = p.dir ∧ e.name = p.name) := fun i => by
        rw [at1]
        by_cases hi : i = p.dir
        · rw [if_pos hi, hi, mem_rid]
          exact ⟨fun ⟨z1, z2⟩ => ⟨z1, fun z => z2 z.2⟩, fun ⟨z1, z2⟩ => ⟨z1, fun z => z2 ⟨rfl, z⟩⟩⟩
        · rw [if_neg hi]
          exact ⟨fun z => ⟨z, fun y => hi y.1⟩, fun z => z.1⟩
      by_cases hi : i = q.dir
      · rw [if_pos hi, mem_rid, m1, hi]
        exact ⟨fun ⟨⟨z1, z2⟩, z3⟩ => ⟨z1, z2, fun z => z3 z.2.2⟩, fun ⟨z1, z2, z3⟩ => ⟨⟨z1, z2⟩, fun z => z3 ⟨hq, rfl, z⟩⟩⟩
      · rw [if_neg hi, m1]
        exact ⟨fun ⟨z1, z2⟩ => ⟨z1, z2, fun z => hi z.2.1⟩, fun ⟨z1, z2, _⟩ => ⟨z1, z2⟩⟩
    have hkd : (((T.cut p.dir p.name).cut q.dir q.name).at q.dir).kind = 2 := by
      rw [at2, if_pos rfl, at1]
      show (if q.dir = p.dir then (T.at p.dir).rid p.name else T.at q.dir).kind = 2
      split
      · exact h.pat.kind
      · exact h.qdir
    refine ⟨g2, r2.trans r1, fun i => ?_, hmem, withE_ok hkd h.qname hpn (fun e he hn => ?_) ?_⟩
    · rw [at2]
      split
      · rename_i z
        rw [at1]
        split
        · rename_i z2; rw [z, z2]; exact ⟨_, rfl⟩
        · rw [z]; exact ⟨_, rfl⟩
      · rw [at1]
        split
        · rename_i z2; rw [z2]; exact ⟨_, rfl⟩
        · exact ⟨_, rfl⟩
    · exact ((hmem q.dir e).1 he).2.2 ⟨hq, rfl, hn⟩
    · rw [at2, if_pos rfl]
      have h8 := dir_len g1 (withoutE_iff.1 hc2).1
      have := rid_len (withoutE_iff.1 hc2).2
      omega
/-- What is moved, in whatever order the entries are taken away. -/
theorem move_eq {T : Tab} (hg : T.good) {c : Cred} {p q : Found} (h : MoveF T c p q) (op : List Int) :
    (if ¬ q.node = 0 then (T.cut q.dir q.name).moveF p q op else T.moveF p q op) = ((((T.two p q).putE q.dir (((T.two p q).at q.dir).withN q.name p.node)).1.freeN q.node op).1, 0) := by
  have hB := two_facts hg h
  have hh : (T.two p q).has q.dir = true := has_kind'.2 (by
    obtain ⟨l, hl⟩ := hB.same q.dir
    rw [hl]; show (T.at q.dir).kind ≠ 0; rw [h.qdir]; decide)
  have hE : (if ¬ q.node = 0 then (T.cut q.dir q.name).moveF p q op else T.moveF p q op) = ((((T.two p q).into q.dir q.name p.node).1.freeN q.node op).1, ((T.two p q).into q.dir q.name p.node).2) := by
    unfold Tab.two
    by_cases hq : q.node = 0
    · rw [if_neg (fun z => z hq), if_pos hq]; rfl
    · rw [if_pos hq, if_neg hq, (cut_comm hg h.pat.wo (h.qat hq).wo (names_apart h hq)).1]; rfl
  rw [hE]
  unfold Tab.into
  rw [if_pos hB.withE]
  have h2 : ((T.two p q).putE q.dir (((T.two p q).at q.dir).withN q.name p.node)).2 = 0 := by rw [(put_with hB.good hh hB.withE).1]
  rw [h2]
theorem renameF_err {T : Tab} {c : Cred} {p q : Found × Int} (op : List Int) (h : ¬ T.renameE c p q = 0) : T.renameF c p q op = (T, T.renameE c p q) := by
  unfold Tab.renameF; rw [if_pos h]
theorem renameF_same {T : Tab} {c : Cred} {p q : Found × Int} (op : List Int) (h : T.renameE c p q = 0) (hd : q.1.node = p.1.node) : T.renameF c p q op = (T, 0) := by
  unfold Tab.renameF; rw [if_neg (fun z => z h), if_pos hd]
theorem renameF_move {T : Tab} (hg : T.good) (ht : T.tree) {c : Cred} {fr tg : ByteArray} {p q : Found × Int} (hp : p = T.resolve c fr false) (hq : q = T.resolve c tg false) (op : List Int) (h : T.renameE c p q = 0) (hd : ¬ q.1.node = p.1.node) :
    T.renameF c p q op = ((((T.two p.1 q.1).putE q.1.dir (((T.two p.1 q.1).at q.1.dir).withN q.1.name p.1.node)).1.freeN q.1.node op).1, 0) := by
  unfold Tab.renameF
  rw [if_neg (fun z => z h), if_neg hd]
  exact move_eq hg (move_facts hg ht hp hq h hd) op
end Abs
end Go.Proofs.Ytpmnfbgnlanpoaa

set_option linter.unusedVariables false
namespace Go.Proofs.Ytpmnfbgnlanpoaa
namespace Abs
set_option maxRecDepth 10000
attribute [local irreducible] AOps AW ACalls thenQ inBlk noGoto

/-! ### trees that stay trees: plain law -/
theorem php : ∀ (n : Nat) (l : List Nat), l.Nodup → (∀ x ∈ l, x < n) → l.length ≤ n
  | 0, l, _, h => by
    cases l with
    | nil => exact Nat.le_refl _
    | cons a l => exact absurd (h a List.mem_cons_self) (Nat.not_lt_zero _)
  | n + 1, l, hn, h => by
    by_cases hm : n ∈ l
    · have h1 := php n (l.erase n) (hn.erase n) (fun x hx => by
        have h2 := (hn.mem_erase_iff).1 hx
        have h3 := h x h2.2
        have h4 := h2.1
        omega)
      rw [List.length_erase_of_mem hm] at h1
      omega
    · have h1 := php n l hn (fun x hx => by
        have h3 := h x hx
        have h4 : x ≠ n := fun e => hm (e ▸ hx)
        omega)
      omega
theorem parent00 {U : Tab} (hg : U.good) : U.parent 0 = 0 := by
  refine parent_none hg.wf ?_
  by_cases z : U.links 0 = 0
  · exact z
  · exfalso
    have hp : 0 < U.links 0 := by have := links_nonneg U 0; omega
    obtain ⟨d, e, he, hn⟩ := (links_pos hg.wf).1 hp
    rcases at_zero_ok hg d with q | q
    · rw [q] at he; cases he
    · by_cases hk : (U.at d).kind = 2
      · have := (((rising_iff _).1 (dir_rising hg hk).2.2).1 e he).2
        omega
      · rw [nodir_ents0 q hk] at he; cases he
theorem up00 {U : Tab} (hg : U.good) : ∀ n : Nat, U.up n 0 = 0
  | 0 => rfl
  | n + 1 => by rw [Tab.up, parent00 hg]; exact up00 hg n
theorem rooted_up' {U : Tab} : ∀ (k n : Nat) (i : Int), k < n → U.up k i = 1 → U.rooted n i = true
  | k, 0, i, h, _ => absurd h (Nat.not_lt_zero _)
  | 0, n + 1, i, _, h => by
    have : i = 1 := h
    simp only [Tab.rooted]; rw [if_pos this]
  | k + 1, n + 1, i, h, h1 => by
    simp only [Tab.rooted]
    split
    · rfl
    · exact rooted_up' k n _ (by omega) h1
theorem up_rooted {U : Tab} (hg : U.good) {i : Int} (hi : U.has i = true) (h : ∃ k, U.up k i = 1) : U.rooted 24 i = true := by
  obtain ⟨k, hk, hmin⟩ : ∃ k, U.up k i = 1 ∧ ∀ j, j < k → U.up j i ≠ 1 := by
    obtain ⟨k, hk⟩ := h
    induction k using Nat.strongRecOn with
    | ind k ih =>
      by_cases q : ∃ j, j < k ∧ U.up j i = 1
      · obtain ⟨j, hj, hj1⟩ := q
        exact ih j hj hj1
      · exact ⟨k, hk, fun j hj e => q ⟨j, hj, e⟩⟩
  refine rooted_up' k 24 i ?_ hk
  have h0 : ∀ j, j ≤ k → U.up j i ≠ 0 := fun j hj e => by
    have h1 := up_add U (k - j) j i
    rw [e, up00 hg, show k - j + j = k by omega, hk] at h1
    exact absurd h1 (by decide)
  have hhas : ∀ j, j ≤ k → U.has (U.up j i) = true := fun j hj => by
    cases j with
    | zero => exact hi
    | succ j =>
      have h2 := h0 (j + 1) hj
      rw [up_succ] at h2 ⊢
      exact ent_has (parent_ent h2)
  have hrng : ∀ j, j ≤ k → 1 ≤ U.up j i ∧ U.up j i ≤ 24 := fun j hj => by
    have h1 := has_rng (hhas j hj)
    have h2 := hg.wf.2.1
    omega
  have hinj : ∀ a b, a < b → b ≤ k → U.up a i ≠ U.up b i := fun a b hab hb e => by
    have h1 := up_add U (k - b) b i
    have h2 := up_add U (k - b) a i
    rw [show k - b + b = k by omega, hk] at h1
    rw [e, ← h1] at h2
    exact hmin (k - b + a) (by omega) h2
  have hl := php 24 ((List.range (k + 1)).map fun j => (U.up j i).toNat - 1) ?_ (fun x hx => ?_)
  · rw [List.length_map, List.length_range] at hl; omega
  · show List.Pairwise _ _
    rw [List.pairwise_map]
    refine List.pairwise_lt_range.imp_of_mem (fun {a b} ha hb hab e => ?_)
    rw [List.mem_range] at ha hb
    have h1 := hrng a (by omega)
    have h2 := hrng b (by omega)
    exact hinj a b hab (by omega) (by omega)
  · obtain ⟨j, hj, rfl⟩ := List.mem_map.1 hx
    rw [List.mem_range] at hj
    have h1 := hrng j (by omega)
    omega
theorem tree_up {T : Tab} (ht : T.tree) {i : Int} (hk : (T.at i).kind = 2) : ∃ k, T.up k i = 1 := by
  by_cases h : i = 1
  · exact ⟨0, h⟩
  · obtain ⟨k, _, h1⟩ := rooted_up 24 i (ht.dirs i hk h).2
    exact ⟨k, h1⟩
theorem tree_par {T : Tab} (hg : T.good) (ht : T.tree) {i : Int} (hk : (T.at i).kind = 2) (h1 : i ≠ 1) : T.ent (T.parent i) i ∧ (T.at (T.parent i)).kind = 2 := by
  have hl := (ht.dirs i hk h1).1
  obtain ⟨d, hd⟩ := (links_pos hg.wf).1 (show 0 < T.links i by omega)
  rw [one_parent hg.wf hl hd]
  exact ⟨hd, dir_of_ent hg hd⟩
theorem ups_keep {T U : Tab} (hg : T.good) (ht : T.tree) (X : Int → Prop) (hX : ∀ i, (T.at i).kind = 2 → ¬ X i → i ≠ 1 → ¬ X (T.parent i) ∧ U.parent i = T.parent i) :
    ∀ (k : Nat) (i : Int), (T.at i).kind = 2 → ¬ X i → T.up k i = 1 → ∃ k', U.up k' i = 1
  | 0, i, _, _, h => ⟨0, h⟩
  | k + 1, i, hk, hx, h => by
    by_cases h1 : i = 1
    · exact ⟨0, h1⟩
    · obtain ⟨a1, a2⟩ := hX i hk hx h1
      obtain ⟨b1, b2⟩ := tree_par hg ht hk h1
      obtain ⟨k', hk'⟩ := ups_keep hg ht X hX k _ b2 a1 h
      exact ⟨k' + 1, by rw [Tab.up, a2]; exact hk'⟩
theorem cntE_rid {n : Node} (hr : rising n.ents = true) {name : ByteArray} {id : Int} (hf : n.find name = id) (h0 : id ≠ 0) (i : Int) : (cntE n i : Int) = cntE (n.rid name) i + if i = id then 1 else 0 := by
  obtain ⟨e, he, hn, hnode⟩ := find_has (by rw [hf]; exact h0 : n.find name ≠ 0)
  rw [hf] at hnode
  obtain ⟨k, hk, rfl⟩ := List.mem_iff_getElem.1 he
  have hfo := filter_one ((rising_iff _).1 hr).2.1 hk
  rw [hn] at hfo
  have hs : n.ents = n.ents.take k ++ n.ents[k] :: n.ents.drop (k + 1) := by
    rw [← List.drop_eq_getElem_cons hk, List.take_append_drop]
  have e1 : cntE (n.rid name) i = cnt i ((n.ents.take k).map (·.node)) + cnt i ((n.ents.drop (k + 1)).map (·.node)) := by
    show cnt i ((n.ents.filter _).map (·.node)) = _
    rw [hfo, List.append_nil, List.map_append, cnt_append]
  have e2 : cntE n i = cnt i ((n.ents.take k).map (·.node)) + (cnt i [n.ents[k].node] + cnt i ((n.ents.drop (k + 1)).map (·.node))) := by
    show cnt i (n.ents.map (·.node)) = _
    conv => lhs; rw [hs]
    rw [List.map_append, List.map_cons, cnt_append, show n.ents[k].node :: (n.ents.drop (k + 1)).map (·.node) = [n.ents[k].node] ++ (n.ents.drop (k + 1)).map (·.node) from rfl, cnt_append]
  have e3 : cnt i [n.ents[k].node] = if i = id then 1 else 0 := by
    unfold cnt
    rw [hnode]
    by_cases h : i = id
    · rw [if_pos h, h]; simp
    · have h' : ¬ id = i := fun q => h q.symm
      rw [if_neg h]; simp [h']
  rw [e1, e2, e3]
  split <;> omega
theorem cut_links {T : Tab} (hg : T.good) {f : Found} (hw : (T.at f.dir).withoutE f.name = 0) (hf : (T.at f.dir).find f.name = f.node) (h0 : f.node ≠ 0) (i : Int) : (T.cut f.dir f.name).links i = T.links i - if i = f.node then 1 else 0 := by
  obtain ⟨e, o, g, r, a⟩ := cut_spec hg hw
  have hk := (withoutE_iff.1 hw).1
  obtain ⟨hh, ho, hr⟩ := dir_rising hg hk
  have hrng := has_rng hh
  have h1 := links_put hg (k := (f.dir - 1).toNat) (by omega) (.inr o) i
  rw [← e, ← at_nd (by omega)] at h1
  have h2 := cntE_rid hr hf h0 i
  split <;> split at h2 <;> omega
theorem b2i_has {T : Tab} {i : Int} (h : T.has i = true) : b2i (T.has (((i - 1).toNat : Nat) + 1)) = 1 := by
  have hr := has_rng h
  rw [show (((i - 1).toNat : Nat) : Int) + 1 = i by omega, h]; rfl
theorem used_same {T : Tab} (hg : T.good) {i : Int} (h : T.has i = true) {n : Node} (hk : n.kind ≠ 0) : (T.put (i - 1).toNat n).used = T.used := by
  have hr := has_rng h
  have h1 := used_put hg.wf (k := (i - 1).toNat) (by omega) n
  rw [b2i_has h, decide_eq_false hk] at h1
  rw [h1]; show T.used + (1 - 1) = T.used; omega
theorem used_drop {T : Tab} (hg : T.good) {i : Int} (h : T.has i = true) : (T.put (i - 1).toNat Node.zero).used = T.used - 1 := by
  have hr := has_rng h
  have h1 := used_put hg.wf (k := (i - 1).toNat) (by omega) Node.zero
  rw [b2i_has h] at h1
  rw [h1]; show T.used + (0 - 1) = T.used - 1; omega
theorem cut_used {T : Tab} (hg : T.good) {dir : Int} {name : ByteArray} (hw : (T.at dir).withoutE name = 0) : (T.cut dir name).used = T.used := by
  obtain ⟨e, o, g, r, a⟩ := cut_spec hg hw
  have hk := (withoutE_iff.1 hw).1
  rw [e]
  exact used_same hg (dir_rising hg hk).1 (show ((T.at dir).rid name).kind ≠ 0 by rw [(rid_kind _ _).1, hk]; decide)
/-- What is taken away. -/
structure Gone (T U : Tab) (f : Found) : Prop where
  good : U.good
  room : U.room = T.room
  at_ : ∀ i, U.at i = if i = f.node ∧ T.links f.node = 1 then Node.zero else if i = f.dir then (T.at f.dir).rid f.name else T.at i
  links : ∀ i, U.links i = T.links i - if i = f.node then 1 else 0
  used : U.used = T.used - if T.links f.node = 1 then 1 else 0
  tree : U.tree
theorem drop_at {C : Tab} (hg : C.good) {i : Int} (h : C.has i = true) : ∀ j, (C.put (i - 1).toNat Node.zero).at j = if j = i then Node.zero else C.at j := fun j => by
  have hr := has_rng h
  rw [at_put hg (by omega) (.inl rfl), show (((i - 1).toNat : Nat) : Int) + 1 = i by omega]
theorem drop_links {C : Tab} (hg : C.good) {i : Int} (h : C.has i = true) (he : (C.at i).ents = []) (j : Int) : (C.put (i - 1).toNat Node.zero).links j = C.links j := by
  have hr := has_rng h
  have h1 := links_put hg (k := (i - 1).toNat) (by omega) (.inl rfl) j
  rw [← at_nd (by omega)] at h1
  have h2 : cntE (C.at i) j = 0 := by unfold cntE; rw [he]; rfl
  rw [h2, show cntE Node.zero j = 0 from rfl] at h1
  omega
theorem node_ne1 {T : Tab} (hg : T.good) (ht : T.tree) {d i : Int} (h : T.ent d i) : i ≠ 1 := fun e => by
  have := (links_pos hg.wf).2 ⟨d, h⟩
  rw [e, ht.top] at this
  exact absurd this (by decide)
end Abs
end Go.Proofs.Ytpmnfbgnlanpoaa

set_option linter.unusedVariables false
namespace Go.Proofs.Ytpmnfbgnlanpoaa
namespace Abs
set_option maxRecDepth 10000
attribute [local irreducible] AOps AW ACalls thenQ inBlk noGoto

/-! ### what is moved: plain law -/
theorem below_false {T : Tab} (hg : T.good) {d : Int} (hd : d ≠ 0) : ∀ (n : Nat) (i : Int), T.below n i d = false → ∀ j, j ≤ n → T.up j i ≠ d
  | 0, i, h, j, hj => by
    have : j = 0 := by omega
    subst this
    simp only [Tab.below, decide_eq_false_iff_not] at h
    exact h
  | n + 1, i, h, j, hj => by
    simp only [Tab.below] at h
    split at h
    · cases h
    · rename_i h1
      split at h
      · rename_i h2
        rw [h2, up00 hg]; exact hd.symm
      · cases j with
        | zero => exact h1
        | succ j => exact below_false hg hd n _ h j (by omega)
theorem not_below {T : Tab} (hg : T.good) (ht : T.tree) {c : Cred} {p q : Found} (h : MoveF T c p q) : ∀ n, T.up n q.dir ≠ p.node := fun n => by
  have h0 := h.pat.node
  by_cases hk : (T.at p.node).kind = 2
  · by_cases hn : n ≤ 24
    · exact below_false hg h0 24 q.dir (h.nb hk) n hn
    · have h1 := up_add T (n - 25) 25 q.dir
      rw [show n - 25 + 25 = n by omega, show T.up 25 q.dir = T.up 24 (T.parent q.dir) from rfl, up24 hg ht h.qdir, up00 hg] at h1
      rw [h1]; exact h0.symm
  · have hd : ∀ n i, (T.at i).kind = 2 → T.up n i ≠ p.node := fun n => by
      induction n with
      | zero => intro i hi e; exact hk (by rw [← e]; exact hi)
      | succ n ih =>
        intro i hi
        by_cases hp : T.parent i = 0
        · rw [Tab.up, hp, up00 hg]; exact h0.symm
        · exact ih _ (dir_of_ent hg (parent_ent hp))
    exact hd n _ h.qdir
structure MovedTo (T U : Tab) (p q : Found) : Prop where
  good : U.good
  room : U.room = T.room
  gone : q.node ≠ 0 ∧ T.links q.node = 1 → U.at q.node = Node.zero
  same : ∀ i, ¬ (i = q.node ∧ q.node ≠ 0 ∧ T.links q.node = 1) → ∃ l, U.at i = { T.at i with ents := l }
  mem : ∀ i e, e ∈ (U.at i).ents ↔ ((i = q.dir ∧ e = ⟨q.name, p.node⟩) ∨ (e ∈ (T.at i).ents ∧ ¬ (i = p.dir ∧ e.name = p.name) ∧ ¬ (q.node ≠ 0 ∧ i = q.dir ∧ e.name = q.name)))
  links : ∀ i, U.links i = T.links i - if q.node ≠ 0 ∧ i = q.node then 1 else 0
  used : U.used = T.used - if q.node ≠ 0 ∧ T.links q.node = 1 then 1 else 0
  tree : U.tree
def Tab.wT (T : Tab) (p q : Found) : Tab := (T.two p q).put (q.dir - 1).toNat (((T.two p q).at q.dir).withN q.name p.node)
def Tab.movedT (T : Tab) (p q : Found) : Tab := if q.node ≠ 0 ∧ T.links q.node = 1 then (T.wT p q).put (q.node - 1).toNat Node.zero else T.wT p q
structure WT (T : Tab) (p q : Found) : Prop where
  good : (T.wT p q).good
  room : (T.wT p q).room = T.room
  same : ∀ i, ∃ l, (T.wT p q).at i = { T.at i with ents := l }
  mem : ∀ i e, e ∈ ((T.wT p q).at i).ents ↔ ((i = q.dir ∧ e = ⟨q.name, p.node⟩) ∨ (e ∈ (T.at i).ents ∧ ¬ (i = p.dir ∧ e.name = p.name) ∧ ¬ (q.node ≠ 0 ∧ i = q.dir ∧ e.name = q.name)))
  links : ∀ i, (T.wT p q).links i = T.links i - if q.node ≠ 0 ∧ i = q.node then 1 else 0
  used : (T.wT p q).used = T.used
  eq : (T.two p q).putE q.dir (((T.two p q).at q.dir).withN q.name p.node) = (T.wT p q, 0)
theorem two_links {T : Tab} (hg : T.good) {c : Cred} {p q : Found} (h : MoveF T c p q) (i : Int) : (T.two p q).links i = T.links i - (if i = p.node then 1 else 0) - (if q.node ≠ 0 ∧ i = q.node then 1 else 0) := by
  have h1 := cut_links hg h.pat.wo h.pat.find h.pat.node i
  unfold Tab.two
  by_cases hq : q.node = 0
  · rw [if_pos hq, h1, if_neg (fun z : q.node ≠ 0 ∧ i = q.node => z.1 hq)]; omega
  · rw [if_neg hq]
    have hQ := h.qat hq
    obtain ⟨e1, o1, g1, r1, at1⟩ := cut_spec hg h.pat.wo
    obtain ⟨_, w2, _⟩ := cut_comm hg h.pat.wo hQ.wo (names_apart h hq)
    have hf2 : ((T.cut p.dir p.name).at q.dir).find q.name = q.node := by
      rw [at1]
      split
      · rename_i z
        have hr := (dir_rising hg h.pat.kind).2.2
        rw [rid_find hr (by
          have := dir_rising g1 (show ((T.cut p.dir p.name).at p.dir).kind = 2 by rw [at1, if_pos rfl]; exact h.pat.kind)
          rw [at1, if_pos rfl] at this
          exact this.2.2), if_neg (fun y => names_apart h hq ⟨z.symm, y.symm⟩), ← z]
        exact hQ.find
      · exact hQ.find
    rw [cut_links g1 w2 hf2 hq i, h1]
    by_cases hi : i = q.node
    · rw [if_pos hi, if_pos (show q.node ≠ 0 ∧ i = q.node from ⟨hq, hi⟩)]
    · rw [if_neg hi, if_neg (fun z : q.node ≠ 0 ∧ i = q.node => hi z.2)]
theorem two_used {T : Tab} (hg : T.good) {c : Cred} {p q : Found} (h : MoveF T c p q) : (T.two p q).used = T.used := by
  have h1 := cut_used hg h.pat.wo
  unfold Tab.two
  by_cases hq : q.node = 0
  · rw [if_pos hq, h1]
  · rw [if_neg hq]
    obtain ⟨e1, o1, g1, r1, at1⟩ := cut_spec hg h.pat.wo
    rw [cut_used g1 (cut_comm hg h.pat.wo (h.qat hq).wo (names_apart h hq)).2.1, h1]
theorem wt_facts {T : Tab} (hg : T.good) {c : Cred} {p q : Found} (h : MoveF T c p q) : WT T p q := by
  have hB := two_facts hg h
  have hh : (T.two p q).has q.dir = true := has_kind'.2 (by
    obtain ⟨l, hl⟩ := hB.same q.dir
    rw [hl]; show (T.at q.dir).kind ≠ 0; rw [h.qdir]; decide)
  obtain ⟨a1, a2, a3, a4, a5, a6⟩ := put_with hB.good hh hB.withE
  refine ⟨a3, hB.room, fun i => ?_, fun i e => ?_, fun i => ?_, ?_, a1⟩
  · show ∃ l, (Tab.put (T.two p q) _ _).at i = _
    rw [a4]
    split
    · rename_i z
      rw [withN_ents hB.withE]
      obtain ⟨l, hl⟩ := hB.same q.dir
      rw [hl, z]; exact ⟨_, rfl⟩
    · exact hB.same i
  · show e ∈ ((Tab.put (T.two p q) _ _).at i).ents ↔ _
    rw [a4]
    split
    · rename_i z
      rw [withN_ents hB.withE, z]
      show e ∈ insE _ _ ↔ _
      rw [insE_mem, hB.mem]
      exact ⟨fun y => y.imp (fun y => ⟨rfl, y⟩) id, fun y => y.imp (fun y => y.2) id⟩
    · rename_i z
      rw [hB.mem]
      exact ⟨.inr, fun y => y.elim (fun y => absurd y.1 z) id⟩
  · show (Tab.put (T.two p q) _ _).links i = _
    rw [a6, two_links hg h]
    split <;> omega
  · show (Tab.put (T.two p q) _ _).used = _
    rw [used_same hB.good hh (ok_kind a2), two_used hg h]
theorem over_zero {T : Tab} {c : Cred} {p q : Found} (h : T.overE c p q = 0) : T.mayTake c q = true ∧ (T.at q.node).ents = [] ∧ ((T.at p.node).kind = 2 ↔ (T.at q.node).kind = 2) := by
  unfold Tab.overE at h
  split at h
  · cases h
  rename_i h1
  split at h
  · cases h
  rename_i h2
  split at h
  · cases h
  rename_i h3
  split at h
  · cases h
  rename_i h4
  refine ⟨by simpa using h1, List.length_eq_zero_iff.1 (by omega), fun z => ?_, fun z => ?_⟩
  · by_cases y : (T.at q.node).kind = 2
    · exact y
    · exact absurd ⟨z, y⟩ h2
  · by_cases y : (T.at p.node).kind = 2
    · exact y
    · exact absurd ⟨z, y⟩ h3
theorem moved_facts {T : Tab} (hg : T.good) (ht : T.tree) {c : Cred} {p q : Found} (h : MoveF T c p q) : MovedTo T (T.movedT p q) p q ∧ ((T.two p q).putE q.dir (((T.two p q).at q.dir).withN q.name p.node)).1.freeN q.node [] = (T.movedT p q, decide (q.node ≠ 0 ∧ T.links q.node = 1)) := by
  have hW := wt_facts hg h
  have hp1 := node_ne1 hg ht h.pat.ent
  -- the one that is moved over
  have hQ : q.node ≠ 0 → q.node ≠ 1 ∧ (T.at q.node).ents = [] ∧ q.node ≠ q.dir ∧ 0 < T.links q.node ∧ (T.wT p q).at q.node = T.at q.node ∧ (T.wT p q).has q.node = true := fun h0 => by
    have hQa := h.qat h0
    obtain ⟨_, he, _⟩ := over_zero (h.over h0)
    have hnd : q.node ≠ q.dir := fun z => by
      obtain ⟨e, hm, _⟩ := hQa.ent
      rw [← z, he] at hm; cases hm
    obtain ⟨l, hl⟩ := hW.same q.node
    have hl0 : l = [] := by
      cases l with
      | nil => rfl
      | cons e l =>
        have h1 := (hW.mem q.node e).1 (by rw [hl]; exact List.mem_cons_self)
        rcases h1 with h1 | h1
        · exact absurd h1.1 hnd
        · rw [he] at h1; cases h1.1
    have hat : (T.wT p q).at q.node = T.at q.node := by
      rw [hl, hl0, ← he]
    exact ⟨node_ne1 hg ht hQa.ent, he, hnd, (links_pos hg.wf).2 ⟨_, hQa.ent⟩, hat, has_kind'.2 (by rw [hat]; exact has_kind'.1 hQa.has)⟩
  have hG : (T.movedT p q).good := by
    unfold Tab.movedT
    split
    · exact put_good hW.good (.inl rfl) _
    · exact hW.good
  have hat : ∀ i, (T.movedT p q).at i = if i = q.node ∧ q.node ≠ 0 ∧ T.links q.node = 1 then Node.zero else (T.wT p q).at i := fun i => by
    unfold Tab.movedT
    by_cases h1 : q.node ≠ 0 ∧ T.links q.node = 1
    · rw [if_pos h1, drop_at hW.good (hQ h1.1).2.2.2.2.2]
      by_cases h2 : i = q.node
      · rw [if_pos h2, if_pos ⟨h2, h1⟩]
      · rw [if_neg h2, if_neg (fun z => h2 z.1)]
    · rw [if_neg h1, if_neg (fun z => h1 z.2)]
  have hL : ∀ i, (T.movedT p q).links i = T.links i - if q.node ≠ 0 ∧ i = q.node then 1 else 0 := fun i => by
    unfold Tab.movedT
    split
    · rename_i h1
      obtain ⟨_, q2, _, _, q5, q6⟩ := hQ h1.1
      rw [drop_links hW.good q6 (by rw [q5]; exact q2), hW.links]
    · exact hW.links i
  have hmem : ∀ i e, e ∈ ((T.movedT p q).at i).ents ↔ ((i = q.dir ∧ e = ⟨q.name, p.node⟩) ∨ (e ∈ (T.at i).ents ∧ ¬ (i = p.dir ∧ e.name = p.name) ∧ ¬ (q.node ≠ 0 ∧ i = q.dir ∧ e.name = q.name))) := fun i e => by
    rw [hat]
    split
    · rename_i z
      obtain ⟨z1, z2, z3⟩ := z
      obtain ⟨_, q2, q3, _⟩ := hQ z2
      rw [z1, q2]
      exact ⟨fun y => (by cases y), fun y => y.elim (fun y => absurd y.1 q3) (fun y => by cases y.1)⟩
    · exact hW.mem i e
  have hsame : ∀ i, ¬ (i = q.node ∧ q.node ≠ 0 ∧ T.links q.node = 1) → ∃ l, (T.movedT p q).at i = { T.at i with ents := l } := fun i z => by
    rw [hat, if_neg z]; exact hW.same i
  have hkd : ∀ i, ¬ (i = q.node ∧ q.node ≠ 0 ∧ T.links q.node = 1) → ((T.movedT p q).at i).kind = (T.at i).kind := fun i z => by
    obtain ⟨l, hl⟩ := hsame i z
    rw [hl]
  have hkind : ∀ i, ((T.movedT p q).at i).kind ≠ 0 → ¬ (i = q.node ∧ q.node ≠ 0 ∧ T.links q.node = 1) := fun i hk z => hk (by rw [hat, if_pos z]; rfl)
  have hdirs : ∀ i, (T.at i).kind = 2 → i ≠ 1 → ¬ (i = q.node ∧ q.node ≠ 0 ∧ T.links q.node = 1) → (T.movedT p q).links i = 1 ∧ i ≠ q.node := fun i hk h1 z => by
    have hl := (ht.dirs i hk h1).1
    have hne : i ≠ q.node := fun y => by
      have : q.node ≠ 0 := fun x => by
        rw [y, x, at_none (by cases hh : T.has 0 with | false => rfl | true => have := has_rng hh; omega)] at hk
        cases hk
      exact z ⟨y, this, by rw [← y]; exact hl⟩
    exact ⟨by rw [hL, if_neg (fun y => hne y.2), hl]; rfl, hne⟩
  have hkeep : ∀ d i, T.ent d i → i ≠ p.node → i ≠ q.node → (T.movedT p q).ent d i := fun d i ⟨e, hm, hn⟩ h1 h2 => by
    refine ⟨e, (hmem d e).2 (.inr ⟨hm, fun z => h1 ?_, fun z => h2 ?_⟩), hn⟩
    · rw [z.1] at hm
      have h3 := find_of_mem (dir_rising hg h.pat.kind).2.2 hm
      rw [z.2, h.pat.find, hn] at h3
      exact h3.symm
    · rw [z.2.1] at hm
      have h3 := find_of_mem (dir_rising hg h.qdir).2.2 hm
      rw [z.2.2, (h.qat z.1).find, hn] at h3
      exact h3.symm
  have hpn : ¬ (p.node = q.node ∧ q.node ≠ 0 ∧ T.links q.node = 1) := fun z => h.ne z.1.symm
  have hqd : ¬ (q.dir = q.node ∧ q.node ≠ 0 ∧ T.links q.node = 1) := fun z => (hQ z.2.1).2.2.1 z.1.symm
  have hnewent : (T.movedT p q).ent q.dir p.node := ⟨⟨q.name, p.node⟩, (hmem _ _).2 (.inl ⟨rfl, rfl⟩), rfl⟩
  have hfree : (T.wT p q).freeN q.node [] = (T.movedT p q, decide (q.node ≠ 0 ∧ T.links q.node = 1)) := by
    unfold Tab.freeN Tab.movedT Tab.dropE
    by_cases h0 : q.node = 0
    · have hh0 : (T.wT p q).has 0 = false := by cases hh : (T.wT p q).has 0 with | false => rfl | true => have := has_rng hh; omega
      have hl0 : ¬ 0 < (T.wT p q).links 0 := fun z => by
        obtain ⟨d, hd⟩ := (links_pos hW.good.wf).1 z
        obtain ⟨e, hm, hn⟩ := hd
        have hkd := dir_of_ent hW.good ⟨e, hm, hn⟩
        have := (((rising_iff _).1 (dir_rising hW.good hkd).2.2).1 e hm).2
        omega
      rw [h0, if_neg (by decide), if_neg hl0, if_neg (by simp), hh0, if_neg (by decide), if_neg (fun z => z.1 rfl), decide_eq_false (fun z => z.1 rfl)]
    · obtain ⟨q1, q2, q3, q4, q5, q6⟩ := hQ h0
      rw [if_neg q1, hW.links, if_pos (⟨h0, rfl⟩ : q.node ≠ 0 ∧ q.node = q.node)]
      by_cases h1 : T.links q.node = 1
      · rw [if_neg (by omega), if_neg (by simp), if_pos q6, if_pos ⟨h0, h1⟩, decide_eq_true ⟨h0, h1⟩]
      · rw [if_pos (by omega), if_neg (fun z => h1 z.2), decide_eq_false (fun z => h1 z.2)]
  refine ⟨⟨hG, ?_, fun z => by rw [hat, if_pos ⟨rfl, z⟩], hsame, hmem, hL, ?_, ?_⟩, by rw [hW.eq]; exact hfree⟩
  · unfold Tab.movedT
    split
    · exact hW.room
    · exact hW.room
  · unfold Tab.movedT
    split
    · rename_i h1
      rw [used_drop hW.good (hQ h1.1).2.2.2.2.2, hW.used]
    · rw [hW.used]; omega
  have hq1 : ¬ (1 = q.node ∧ q.node ≠ 0 ∧ T.links q.node = 1) := fun z => (hQ z.2.1).1 z.1.symm
  refine ⟨?_, ?_, fun d i hd => ?_, fun i hk h1 => ?_, fun i hh hk => ?_⟩
  · rw [hkd 1 hq1]; exact ht.root
  · rw [hL, ht.top, if_neg (fun z => (hQ z.1).1 z.2.symm)]; rfl
  · have hz : ¬ (i = q.node ∧ q.node ≠ 0 ∧ T.links q.node = 1) := fun z => by
      have h2 := (links_pos hG.wf).2 ⟨d, hd⟩
      rw [hL, if_pos ⟨z.2.1, z.1⟩, z.1, z.2.2] at h2
      exact absurd h2 (by decide)
    refine has_kind'.2 ?_
    rw [hkd i hz]
    obtain ⟨e, hm, hn⟩ := hd
    rcases (hmem d e).1 hm with y | y
    · rw [← hn, y.2]; exact has_kind'.1 h.pat.has
    · exact has_kind'.1 (ht.ents d i ⟨e, y.1, hn⟩)
  · have hz := hkind i (by rw [hk]; decide)
    rw [hkd i hz] at hk
    obtain ⟨hl1, hne⟩ := hdirs i hk h1 hz
    refine ⟨hl1, up_rooted hG (has_kind'.2 (by rw [hkd i hz, hk]; decide)) ?_⟩
    have hpar : ∀ j, (T.at j).kind = 2 → j ≠ 1 → j ≠ p.node → j ≠ q.node → (T.movedT p q).parent j = T.parent j := fun j hkj hj1 hjp hjq => by
      obtain ⟨b1, b2⟩ := tree_par hg ht hkj hj1
      exact one_parent hG.wf (hdirs j hkj hj1 (fun z => hjq z.1)).1 (hkeep _ _ b1 hjp hjq)
    have hparq : ∀ j, (T.at j).kind = 2 → j ≠ 1 → q.node ≠ 0 → T.parent j ≠ q.node := fun j hkj hj1 h0 z => by
      obtain ⟨⟨e, hm, _⟩, b2⟩ := tree_par hg ht hkj hj1
      rw [z, (hQ h0).2.1] at hm; cases hm
    have hz0 : ∀ j, (T.at j).kind = 2 → j ≠ 0 := fun j hkj z => by
      rw [z, at_none (by cases hh : T.has 0 with | false => rfl | true => have := has_rng hh; omega)] at hkj
      cases hkj
    -- where it goes
    have hto : ∃ k', (T.movedT p q).up k' q.dir = 1 := by
      obtain ⟨k, hk1⟩ := tree_up ht h.qdir
      refine ups_keep hg ht (fun j => j = q.node ∨ ∃ n, T.up n j = p.node) (fun j hkj hxj hj1 => ?_) k q.dir h.qdir (fun z => ?_) hk1
      · have hjp : j ≠ p.node := fun y => hxj (.inr ⟨0, y⟩)
        have hjq : j ≠ q.node := fun y => hxj (.inl y)
        refine ⟨fun z => ?_, hpar j hkj hj1 hjp hjq⟩
        rcases z with z | ⟨n, z⟩
        · by_cases h0 : q.node = 0
          · exact hz0 _ (tree_par hg ht hkj hj1).2 (by rw [z]; exact h0)
          · exact hparq j hkj hj1 h0 z
        · exact hxj (.inr ⟨n + 1, z⟩)
      · rcases z with z | ⟨n, z⟩
        · by_cases h0 : q.node = 0
          · exact hz0 _ h.qdir (by rw [z]; exact h0)
          · exact (hQ h0).2.2.1 z.symm
        · exact not_below hg ht h n z
    obtain ⟨k, hk1⟩ := tree_up ht hk
    have main : ∀ (k : Nat) (j : Int), (T.at j).kind = 2 → j ≠ q.node → T.up k j = 1 → ∃ k', (T.movedT p q).up k' j = 1 := fun k => by
      induction k with
      | zero => intro j _ _ hj; exact ⟨0, hj⟩
      | succ k ih =>
        intro j hkj hjq hj
        by_cases hj1 : j = 1
        · exact ⟨0, hj1⟩
        · by_cases hjp : j = p.node
          · obtain ⟨k', hk'⟩ := hto
            refine ⟨k' + 1, ?_⟩
            rw [Tab.up, hjp, one_parent hG.wf (by rw [← hjp]; exact (hdirs j hkj hj1 (fun z => hjq z.1)).1) hnewent]
            exact hk'
          · obtain ⟨b1, b2⟩ := tree_par hg ht hkj hj1
            have hpq : T.parent j ≠ q.node := fun z => by
              by_cases h0 : q.node = 0
              · exact hz0 _ b2 (by rw [z]; exact h0)
              · exact hparq j hkj hj1 h0 z
            obtain ⟨k', hk'⟩ := ih _ b2 hpq hj
            exact ⟨k' + 1, by rw [Tab.up, hpar j hkj hj1 hjp hjq]; exact hk'⟩
    exact main k i hk hne hk1
  · have hk0 := has_kind'.1 hh
    have hz := hkind i hk0
    rw [hkd i hz] at hk hk0
    have h3 := ht.others i (has_kind'.2 hk0) hk
    rw [hL]
    split
    · rename_i y
      have : T.links i ≠ 1 := fun x => hz ⟨y.2, y.1, by rw [← y.2]; exact x⟩
      omega
    · omega
end Abs
end Go.Proofs.Ytpmnfbgnlanpoaa
