import Derived.Test.YtpmnfbgnlanpoaaGreatGF
import Derived.Test.YtpmnfbgnlanpoaaGreatGB
import Derived.Test.YtpmnfbgnlanpoaaGreatM7
import Derived.Test.YtpmnfbgnlanpoaaGreatZ3
import Derived.Test.YtpmnfbgnlanpoaaGreatZ5
import Derived.Test.YtpmnfbgnlanpoaaGreatZ6
set_option linter.unusedVariables false
namespace Go.Proofs.YtpmnfbgnlanpoaaGreat
namespace Abs
set_option maxRecDepth 10000
attribute [local irreducible] AOps AW ACalls thenQ inBlk noGoto

/-! ### entries that are cut and moved: plain law -/
def Node.rid (n : Node) (name : ByteArray) : Node := { n with ents := n.ents.filter fun e => !decide (e.name = name) }
theorem place_some_iff {n : Node} {name : ByteArray} : (n.place name).isSome = true ↔ ∃ e ∈ n.ents, e.name = name := by
  constructor
  · intro h
    obtain ⟨k, hk⟩ := Option.isSome_iff_exists.1 h
    obtain ⟨h1, h2⟩ := place_lt hk
    exact ⟨_, List.getElem_mem h1, h2⟩
  · rintro ⟨e, he, hn⟩
    cases hp : n.place name with
    | some k => rfl
    | none => exact absurd hn (place_none hp e he)
theorem withoutE_iff {n : Node} {name : ByteArray} : n.withoutE name = 0 ↔ n.kind = 2 ∧ ∃ e ∈ n.ents, e.name = name := by
  unfold Node.withoutE
  by_cases hk : n.kind = 2
  · rw [if_neg (fun q => q hk)]
    by_cases hp : (n.place name).isSome = true
    · rw [if_pos hp]; exact ⟨fun _ => ⟨hk, place_some_iff.1 hp⟩, fun _ => rfl⟩
    · rw [if_neg hp]; exact ⟨fun q => absurd q (by decide), fun q => absurd (place_some_iff.2 q.2) hp⟩
  · rw [if_pos hk]; exact ⟨fun q => absurd q (by decide), fun q => absurd q.1 hk⟩
theorem find_of_mem {n : Node} (hr : rising n.ents = true) {e : Ent} (he : e ∈ n.ents) : n.find e.name = e.node := by
  obtain ⟨k, hk, rfl⟩ := List.mem_iff_getElem.1 he
  exact find_at hr hk
theorem find_has {n : Node} {name : ByteArray} (h : n.find name ≠ 0) : ∃ e ∈ n.ents, e.name = name ∧ e.node = n.find name := by
  unfold Node.find at h ⊢
  cases hp : n.place name with
  | none => rw [hp] at h; exact absurd rfl h
  | some k =>
    obtain ⟨h1, h2⟩ := place_lt hp
    exact ⟨n.ents[k], List.getElem_mem h1, h2, by simp only [List.getD_eq_getElem?_getD, List.getElem?_eq_getElem h1, Option.getD_some]⟩
theorem find_zero {n : Node} (hr : rising n.ents = true) {name : ByteArray} : n.find name = 0 ↔ ∀ e ∈ n.ents, e.name ≠ name := by
  constructor
  · intro h e he hn
    have h1 := find_of_mem hr he
    have h2 := (((rising_iff _).1 hr).1 e he).2
    rw [hn, h] at h1; omega
  · intro h
    by_cases hz : n.find name = 0
    · exact hz
    · obtain ⟨e, he, hn, _⟩ := find_has hz
      exact absurd hn (h e he)
theorem withoutE_find {n : Node} {name : ByteArray} (hk : n.kind = 2) (h : n.find name ≠ 0) : n.withoutE name = 0 := by
  obtain ⟨e, he, hn, _⟩ := find_has h
  exact withoutE_iff.2 ⟨hk, e, he, hn⟩
theorem filter_one {l : List Ent} (hp : l.Pairwise ltE) {k : Nat} (hk : k < l.length) : l.filter (fun e => !decide (e.name = l[k].name)) = l.take k ++ [] ++ l.drop (k + 1) := by
  have hs : l = l.take k ++ l[k] :: l.drop (k + 1) := by
    rw [← List.drop_eq_getElem_cons hk, List.take_append_drop]
  generalize l[k] = x at hs ⊢
  generalize l.take k = A at hs ⊢
  generalize l.drop (k + 1) = B at hs ⊢
  rw [hs] at hp ⊢
  rw [List.pairwise_append, List.pairwise_cons] at hp
  obtain ⟨h1, ⟨h2, h3⟩, h4⟩ := hp
  have ne_of : ∀ {a b : Ent}, ltE a b → a.name ≠ b.name := fun h e => by
    unfold ltE at h; rw [e] at h; exact List.lt_irrefl _ h
  rw [List.filter_append, List.filter_cons, if_neg (by simp)]
  rw [List.filter_eq_self.2 (fun a ha => by simpa using ne_of (h4 a ha x List.mem_cons_self)), List.filter_eq_self.2 (fun b hb => by simpa using (ne_of (h2 b hb)).symm), List.append_nil]
theorem withoutN_rid {n : Node} {name : ByteArray} (hr : rising n.ents = true) (h : n.withoutE name = 0) : n.withoutN name = n.rid name := by
  obtain ⟨hk, e, he, hn⟩ := withoutE_iff.1 h
  obtain ⟨k, hp⟩ := Option.isSome_iff_exists.1 (place_some_iff.2 ⟨e, he, hn⟩)
  obtain ⟨h1, h2⟩ := place_lt hp
  have hk2 : (n.kind == 2) = true := by simpa using hk
  have hf := filter_one ((rising_iff _).1 hr).2.1 h1
  rw [h2] at hf
  simp only [Node.withoutN, hp, hk2, Node.cut, Node.rid]
  rw [hf]
theorem mem_rid {n : Node} {name : ByteArray} {e : Ent} : e ∈ (n.rid name).ents ↔ e ∈ n.ents ∧ e.name ≠ name := by
  show e ∈ n.ents.filter _ ↔ _
  rw [List.mem_filter]; simp
theorem rid_ok {n : Node} {name : ByteArray} (ho : nodeOk n = true) (hk : n.kind = 2) : nodeOk (n.rid name) = true := by
  have hr := ((dirOk_iff hk).1 ho).2.2.2
  obtain ⟨r1, r2, r3⟩ := (rising_iff _).1 hr
  refine dirOk_ents hk ho ((rising_iff _).2 ⟨fun e he => r1 e ((List.mem_filter.1 he).1), r2.filter _, ?_⟩)
  have := List.length_filter_le (fun e : Ent => !decide (e.name = name)) n.ents
  omega
theorem rid_comm (n : Node) (a b : ByteArray) : (n.rid a).rid b = (n.rid b).rid a := by
  unfold Node.rid
  simp only [List.filter_filter, Bool.and_comm]
theorem rid_len {n : Node} {name : ByteArray} (h : ∃ e ∈ n.ents, e.name = name) : (n.rid name).ents.length < n.ents.length := by
  obtain ⟨e, he, hn⟩ := h
  show (n.ents.filter _).length < _
  refine Nat.lt_of_le_of_ne (List.length_filter_le _ _) (fun q => ?_)
  have := List.length_filter_eq_length_iff.1 q e he
  simp [hn] at this
theorem dir_rising {T : Tab} (hg : T.good) {i : Int} (hk : (T.at i).kind = 2) : T.has i = true ∧ nodeOk (T.at i) = true ∧ rising (T.at i).ents = true := by
  have hh : T.has i = true := has_kind'.2 (by rw [hk]; decide)
  rcases at_zero_ok hg i with z | z
  · rw [z] at hk; cases hk
  · exact ⟨hh, z, ((dirOk_iff hk).1 z).2.2.2⟩
theorem cut_spec {T : Tab} (hg : T.good) {dir : Int} {name : ByteArray} (h : (T.at dir).withoutE name = 0) :
    T.cut dir name = T.put (dir - 1).toNat ((T.at dir).rid name) ∧ nodeOk ((T.at dir).rid name) = true ∧ (T.cut dir name).good ∧ (T.cut dir name).room = T.room ∧ ∀ i, (T.cut dir name).at i = if i = dir then (T.at dir).rid name else T.at i := by
  have hk := (withoutE_iff.1 h).1
  obtain ⟨hh, ho, hr⟩ := dir_rising hg hk
  have hok := rid_ok (name := name) ho hk
  have hrng := has_rng hh
  have e : T.cut dir name = T.put (dir - 1).toNat ((T.at dir).rid name) := by
    unfold Tab.cut Tab.putE
    rw [if_pos h, if_pos hh, withoutN_rid hr h, if_pos hok]
  refine ⟨e, hok, good_cut hg _ _, by rw [e]; rfl, fun i => ?_⟩
  rw [e, at_put hg (by omega) (.inr hok), show (((dir - 1).toNat : Nat) : Int) + 1 = dir by omega]
theorem put_put_same (T : Tab) (k : Nat) (a b : Node) : (T.put k a).put k b = T.put k b := by unfold Tab.put; simp
theorem put_put_comm (T : Tab) {k j : Nat} (h : k ≠ j) (a b : Node) : (T.put k a).put j b = (T.put j b).put k a := by
  unfold Tab.put
  congr 1
  exact List.set_comm _ _ h
theorem cut_comm {T : Tab} (hg : T.good) {d1 d2 : Int} {a b : ByteArray} (h1 : (T.at d1).withoutE a = 0) (h2 : (T.at d2).withoutE b = 0) (hne : ¬ (d1 = d2 ∧ a = b)) :
    (T.cut d1 a).cut d2 b = (T.cut d2 b).cut d1 a ∧ ((T.cut d1 a).at d2).withoutE b = 0 ∧ ((T.cut d2 b).at d1).withoutE a = 0 := by
  obtain ⟨e1, o1, g1, r1, at1⟩ := cut_spec hg h1
  obtain ⟨e2, o2, g2, r2, at2⟩ := cut_spec hg h2
  obtain ⟨k1, x1', m1, n1'⟩ := withoutE_iff.1 h1
  obtain ⟨k2, x2', m2, n2'⟩ := withoutE_iff.1 h2
  have f1 := has_rng (dir_rising hg k1).1
  have f2 := has_rng (dir_rising hg k2).1
  have w12 : ((T.cut d1 a).at d2).withoutE b = 0 := by
    rw [at1]
    by_cases hd : d2 = d1
    · rw [if_pos hd]
      subst hd
      exact withoutE_iff.2 ⟨k1, x2', mem_rid.2 ⟨m2, fun q => hne ⟨rfl, by rw [← q, n2']⟩⟩, n2'⟩
    · rw [if_neg hd]; exact h2
  have w21 : ((T.cut d2 b).at d1).withoutE a = 0 := by
    rw [at2]
    by_cases hd : d1 = d2
    · rw [if_pos hd]
      subst hd
      exact withoutE_iff.2 ⟨k1, x1', mem_rid.2 ⟨m1, fun q => hne ⟨rfl, by rw [← n1', q]⟩⟩, n1'⟩
    · rw [if_neg hd]; exact h1
  refine ⟨?_, w12, w21⟩
  obtain ⟨e3, _, _, _, _⟩ := cut_spec g1 w12
  obtain ⟨e4, _, _, _, _⟩ := cut_spec g2 w21
  rw [e3, e4, at1, at2]
  by_cases hd : d2 = d1
  · subst hd
    rw [if_pos rfl, if_pos rfl, e1, e2, put_put_same, put_put_same, rid_comm]
  · rw [if_neg hd, if_neg (fun q => hd q.symm), e1, e2]
    exact put_put_comm T (show (d1 - 1).toNat ≠ (d2 - 1).toNat by omega) _ _
/-! ### names that are found may be names -/
def NameSl (x : ByteArray) : Prop := hasB x 47 = false ∧ hasB x 0 = false
theorem has_iffL (x : ByteArray) (b : UInt8) : hasB x b = (byL x).contains b := rfl
theorem splitL_sl : ∀ (r cur : List UInt8), (∀ c ∈ r, c ≠ 0) → (∀ c ∈ cur, c ≠ 47 ∧ c ≠ 0) → ∀ x ∈ splitL cur r, ∀ c ∈ x, c ≠ 47 ∧ c ≠ 0
  | [], cur, hr, hc, x, hx => by
    simp only [splitL] at hx
    split at hx
    · cases hx
    · rw [List.mem_singleton.1 hx]; exact hc
  | c :: r, cur, hr, hc, x, hx => by
    have hr' : ∀ d ∈ r, d ≠ 0 := fun d hd => hr d (List.mem_cons_of_mem _ hd)
    simp only [splitL] at hx
    split at hx
    · split at hx
      · exact splitL_sl r [] hr' (fun d hd => by cases hd) x hx
      · rcases List.mem_cons.1 hx with rfl | hx
        · exact hc
        · exact splitL_sl r [] hr' (fun d hd => by cases hd) x hx
    · rename_i h47
      refine splitL_sl r _ hr' (fun d hd => ?_) x hx
      rcases List.mem_append.1 hd with hd | hd
      · exact hc d hd
      · rw [List.mem_singleton.1 hd]; exact ⟨h47, hr c List.mem_cons_self⟩
theorem contains_false {l : List UInt8} {b : UInt8} (h : ∀ c ∈ l, c ≠ b) : l.contains b = false := by
  cases hq : l.contains b with
  | false => rfl
  | true => exact absurd rfl (h b (List.contains_iff_mem.1 hq))
theorem splitOf_sl {s : ByteArray} (h : hasB s 0 = false) : ∀ x ∈ splitOf s, NameSl x := by
  have h0 : ∀ c ∈ byL s, c ≠ 0 := has_not h
  have hn : ∀ x ∈ namesOf s, NameSl x := fun x hx => by
    obtain ⟨y, hy, rfl⟩ := List.mem_map.1 hx
    have := splitL_sl _ _ h0 (fun d hd => by cases hd) y hy
    refine ⟨?_, ?_⟩ <;> rw [has_iffL, byL_ofL]
    · exact contains_false (fun c hc => (this c hc).1)
    · exact contains_false (fun c hc => (this c hc).2)
  intro x hx
  unfold splitOf at hx
  split at hx
  · rcases List.mem_append.1 hx with hx | hx
    · exact hn x hx
    · rw [List.mem_singleton.1 hx]; exact ⟨by decide, by decide⟩
  · exact hn x hx
theorem link_fits {T : Tab} (hg : T.good) {i : Int} (hk : (T.at i).kind = 3) : fitsOk (T.at i).target = true := by
  rcases at_zero_ok hg i with z | z
  · rw [z] at hk; cases hk
  · unfold nodeOk at z
    rw [hk, if_neg (by decide), if_neg (by decide), if_pos rfl] at z
    simp only [Bool.and_eq_true] at z
    exact z.2.2
theorem fits_nul {t : ByteArray} (h : fitsOk t = true) : hasB t 0 = false := by
  unfold fitsOk at h
  simp only [Bool.and_eq_true, Bool.not_eq_true', decide_eq_false_iff_not, decide_eq_true_eq] at h
  exact h.2
theorem take_sl {T : Tab} (hg : T.good) {c : Cred} {fo : Bool} {s : RSt} {name : ByteArray} {rest : List ByteArray} (h : ∀ x ∈ s.left, NameSl x ∧ x ≠ ⟨#[]⟩) (hl : s.left = name :: rest) :
    (∀ s', T.take c fo s name rest = .inl s' → ∀ x ∈ s'.left, NameSl x ∧ x ≠ ⟨#[]⟩) ∧ (∀ r, T.take c fo s name rest = .inr r → r.2 = 0 → nameOk r.1.name = true) := by
  have hr : ∀ x ∈ rest, NameSl x ∧ x ≠ ⟨#[]⟩ := fun x hx => h x (by rw [hl]; exact List.mem_cons_of_mem _ hx)
  have hn := h name (by rw [hl]; exact List.mem_cons_self)
  have bad : ∀ (e : Int) (r : Found × Int), e ≠ 0 → (Sum.inr (Found.zero, e) : Sum RSt (Found × Int)) = .inr r → r.2 = 0 → nameOk r.1.name = true := fun e r he q z => by cases q; exact absurd z he
  unfold Tab.take
  by_cases k1 : ¬ (T.at s.pos).kind = 2
  · rw [if_pos k1]; exact ⟨fun s' e => (by cases e), fun r e => bad _ r (by decide) e⟩
  rw [if_neg k1]
  by_cases k2 : T.can c s.pos 1 = false
  · rw [if_pos k2]; exact ⟨fun s' e => (by cases e), fun r e => bad _ r (by decide) e⟩
  rw [if_neg k2]
  by_cases k3 : name = dotS
  · rw [if_pos k3]; exact ⟨fun s' e => by cases e; exact hr, fun r e => by cases e⟩
  rw [if_neg k3]
  by_cases k4 : name = dotdotS
  · rw [if_pos k4]; exact ⟨fun s' e => by cases e; exact hr, fun r e => by cases e⟩
  rw [if_neg k4]
  by_cases k5 : 12 < (name.size : Int)
  · rw [if_pos k5]; exact ⟨fun s' e => (by cases e), fun r e => bad _ r (by decide) e⟩
  rw [if_neg k5]
  by_cases k6 : (T.at s.pos).find name = 0 ∧ 0 < rest.length
  · rw [if_pos k6]; exact ⟨fun s' e => (by cases e), fun r e => bad _ r (by decide) e⟩
  rw [if_neg k6]
  by_cases k7 : (T.at ((T.at s.pos).find name)).kind = 3 ∧ (fo = true ∨ 0 < rest.length)
  · rw [if_pos k7]
    by_cases k8 : s.links = 8
    · rw [if_pos k8]; exact ⟨fun s' e => (by cases e), fun r e => bad _ r (by decide) e⟩
    rw [if_neg k8]
    refine ⟨fun s' e => ?_, fun r e => by cases e⟩
    cases e
    intro x hx
    rcases List.mem_append.1 hx with hx | hx
    · exact ⟨splitOf_sl (fits_nul (link_fits hg k7.1)) x hx, splitOf_ne _ x hx⟩
    · exact hr x hx
  rw [if_neg k7]
  by_cases k9 : rest.length = 0
  · rw [if_pos k9]
    refine ⟨fun s' e => (by cases e), fun r e _ => ?_⟩
    cases e
    have hz : (name.size : Int) ≤ 12 := by omega
    simp only [nameOk, Bool.and_eq_true, Bool.not_eq_true', decide_eq_false_iff_not, decide_eq_true_eq, Bool.or_eq_false_iff]
    exact ⟨⟨⟨⟨hn.2, hz⟩, k3⟩, k4⟩, hn.1⟩
  rw [if_neg k9]
  exact ⟨fun s' e => by cases e; exact hr, fun r e => by cases e⟩
theorem walk_sl {T : Tab} (hg : T.good) {c : Cred} {fo : Bool} : ∀ (f : Nat) (s : RSt), (∀ x ∈ s.left, NameSl x ∧ x ≠ ⟨#[]⟩) → (T.walk c fo f s).2 = 0 → (T.walk c fo f s).1.name ≠ ⟨#[]⟩ → nameOk (T.walk c fo f s).1.name = true
  | 0, s, _, _, h => absurd rfl h
  | f + 1, s, h, h0, hne => by
    cases hq : s.left with
    | nil => rw [walk_end hq] at hne; exact absurd rfl hne
    | cons name rest =>
      rw [walk_step hq] at h0 hne ⊢
      obtain ⟨t1, t2⟩ := take_sl (c := c) (fo := fo) hg h hq
      cases hk : T.take c fo s name rest with
      | inr r => rw [hk] at h0; exact t2 r hk h0
      | inl s' => rw [hk] at h0 hne; exact walk_sl hg f s' (t1 s' hk) h0 hne
theorem resolve_nameOk {T : Tab} (hg : T.good) {c : Cred} {path : ByteArray} {fo : Bool} (h : (T.resolve c path fo).2 = 0) (hne : (T.resolve c path fo).1.name ≠ ⟨#[]⟩) : nameOk (T.resolve c path fo).1.name = true := by
  unfold Tab.resolve at h hne ⊢
  split at h
  · rename_i hf
    rw [if_pos hf] at hne ⊢
    have h0 : hasB path 0 = false := by
      unfold Tab.fitsE at hf
      split at hf
      · cases hf
      · split at hf
        · cases hf
        · split at hf
          · cases hf
          · rename_i q; simpa using q
    exact walk_sl hg 2000 _ (fun x hx => ⟨splitOf_sl h0 x hx, splitOf_ne _ x hx⟩) h hne
  · exact absurd h (by assumption)
theorem withE_ok {n : Node} {name : ByteArray} {id : Int} (hk : n.kind = 2) (hn : nameOk name = true) (hid : 1 ≤ id) (hno : ∀ e ∈ n.ents, e.name ≠ name) (hl : n.ents.length < 8) : n.withE name id = 0 := by
  have hn' := hn
  simp only [nameOk, Bool.and_eq_true, Bool.not_eq_true', decide_eq_false_iff_not, decide_eq_true_eq, Bool.or_eq_false_iff] at hn'
  obtain ⟨⟨⟨⟨h1, h2⟩, h3⟩, h4⟩, h5, h6⟩ := hn'
  have hb : badName name id = false := by
    simp only [badName, Bool.or_eq_false_iff, decide_eq_false_iff_not]
    exact ⟨⟨⟨⟨by omega, h1⟩, h3⟩, h4⟩, h5, h6⟩
  unfold Node.withE
  rw [if_neg (fun q => q hk), if_neg (by rw [hb]; decide), if_neg (by omega), if_neg (fun q => by obtain ⟨e, he, hh⟩ := place_some_iff.1 q; exact hno e he hh), if_neg (by omega)]
/-! ### what may be taken -/
structure TakeAt (T : Tab) (f : Found) : Prop where
  kind : (T.at f.dir).kind = 2
  wo : (T.at f.dir).withoutE f.name = 0
  find : (T.at f.dir).find f.name = f.node
  node : f.node ≠ 0
  has : T.has f.node = true
  ent : T.ent f.dir f.node
theorem take_at {T : Tab} (hg : T.good) (ht : T.tree) {c : Cred} {path : ByteArray} {fo : Bool} (h0 : (T.resolve c path fo).2 = 0) (hn : (T.resolve c path fo).1.node ≠ 0) (hne : (T.resolve c path fo).1.name ≠ ⟨#[]⟩) : TakeAt T (T.resolve c path fo).1 := by
  rcases resolve_srch hg ht c path fo with ⟨h1, _⟩ | ⟨_, h2, _, h3⟩
  · exact absurd h0 h1
  · rcases h3 with ⟨h4, _⟩ | ⟨_, _, h5, _⟩
    · exact absurd h4 hne
    · have hf : (T.at (T.resolve c path fo).1.dir).find (T.resolve c path fo).1.name ≠ 0 := by rw [h5]; exact hn
      have he := find_ent hf
      rw [h5] at he
      exact ⟨h2, withoutE_find h2 hf, h5, hn, ht.ents _ _ he, he⟩
theorem pfind_zero {T : Tab} {c : Cred} {r : Found × Int} (h : T.pfindE c r = 0) : r.2 = 0 ∧ r.1.node ≠ 0 ∧ r.1.name ≠ ⟨#[]⟩ ∧ T.can c r.1.dir 2 = true ∧ T.mayTake c r.1 = true := by
  unfold Tab.pfindE at h
  split at h
  · rename_i q; exact absurd h q
  rename_i q1
  split at h
  · cases h
  rename_i q2
  split at h
  · cases h
  rename_i q3
  split at h
  · cases h
  rename_i q4
  split at h
  · cases h
  rename_i q5
  exact ⟨Decidable.of_not_not q1, q2, q3, by simpa using q4, by simpa using q5⟩
end Abs
end Go.Proofs.YtpmnfbgnlanpoaaGreat
