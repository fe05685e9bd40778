import Derived.Test.YtpmnfbgnlanpoaaGreatGF
import Derived.Test.YtpmnfbgnlanpoaaGreatGB
import Derived.Test.YtpmnfbgnlanpoaaGreatM7
import Derived.Test.YtpmnfbgnlanpoaaGreatZ3
import Derived.Test.YtpmnfbgnlanpoaaGreatZ5
import Derived.Test.YtpmnfbgnlanpoaaGreatZ6
set_option linter.unusedVariables false
namespace Go.Proofs.YtpmnfbgnlanpoaaGreat
namespace Abs
set_option maxRecDepth 10000
attribute [local irreducible] AOps AW ACalls thenQ inBlk noGoto

/-! ### entries that are cut and moved: plain law -/
def Node.rid (n : Node) (name : ByteArray) : Node := { n with ents := n.ents.filter fun e => !decide (e.name = name) }
theorem place_some_iff {n : Node} {name : ByteArray} : (n.place name).isSome = true ↔ ∃ e ∈ n.ents, e.name = name := by
  constructor
  · intro h
    obtain ⟨k, hk⟩ := Option.isSome_iff_exists.1 h
    obtain ⟨h1, h2⟩ := place_lt hk
    exact ⟨_, List.getElem_mem h1, h2⟩
  · rintro ⟨e, he, hn⟩
    cases hp : n.place name with
    | some k => rfl
    | none => exact absurd hn (place_none hp e he)
theorem withoutE_iff {n : Node} {name : ByteArray} : n.withoutE name = 0 ↔ n.kind = 2 ∧ ∃ e ∈ n.ents, e.name = name := by
  unfold Node.withoutE
  by_cases hk : n.kind = 2
  · rw [if_neg (fun q => q hk)]
    by_cases hp : (n.place name).isSome = true
    · rw [if_pos hp]; exact ⟨fun _ => ⟨hk, place_some_iff.1 hp⟩, fun _ => rfl⟩
    · rw [if_neg hp]; exact ⟨fun q => absurd q (by decide), fun q => absurd (place_some_iff.2 q.2) hp⟩
  · rw [if_pos hk]; exact ⟨fun q => absurd q (by decide), fun q => absurd q.1 hk⟩
theorem find_has {n : Node} {name : ByteArray} (h : n.find name ≠ 0) : ∃ e ∈ n.ents, e.name = name ∧ e.node = n.find name := by
  unfold Node.find at h ⊢
  cases hp : n.place name with
  | none => rw [hp] at h; exact absurd rfl h
  | some k =>
    obtain ⟨h1, h2⟩ := place_lt hp
    exact ⟨n.ents[k], List.getElem_mem h1, h2, by simp only [List.getD_eq_getElem?_getD, List.getElem?_eq_getElem h1, Option.getD_some]⟩
theorem withoutE_find {n : Node} {name : ByteArray} (hk : n.kind = 2) (h : n.find name ≠ 0) : n.withoutE name = 0 := by
  obtain ⟨e, he, hn, _⟩ := find_has h
  exact withoutE_iff.2 ⟨hk, e, he, hn⟩
theorem filter_one {l : List Ent} (hp : l.Pairwise ltE) {k : Nat} (hk : k < l.length) : l.filter (fun e => !decide (e.name = l[k].name)) = l.take k ++ [] ++ l.drop (k + 1) := by
  have hs : l = l.take k ++ l[k] :: l.drop (k + 1) := by
    rw [← List.drop_eq_getElem_cons hk, List.take_append_drop]
  generalize l[k] = x at hs ⊢
  generalize l.take k = A at hs ⊢
  generalize l.drop (k + 1) = B at hs ⊢
  rw [hs] at hp ⊢
  rw [List.pairwise_append, List.pairwise_cons] at hp
  obtain ⟨h1, ⟨h2, h3⟩, h4⟩ := hp
  have ne_of : ∀ {a b : Ent}, ltE a b → a.name ≠ b.name := fun h e => by
    unfold ltE at h; rw [e] at h; exact List.lt_irrefl _ h
  rw [List.filter_append, List.filter_cons, if_neg (by simp)]
  rw [List.filter_eq_self.2 (fun a ha => by simpa using ne_of (h4 a ha x List.mem_cons_self)), List.filter_eq_self.2 (fun b hb => by simpa using (ne_of (h2 b hb)).symm), List.append_nil]
theorem withoutN_rid {n : Node} {name : ByteArray} (hr : rising n.ents = true) (h : n.withoutE name = 0) : n.withoutN name = n.rid name := by
  obtain ⟨hk, e, he, hn⟩ := withoutE_iff.1 h
  obtain ⟨k, hp⟩ := Option.isSome_iff_exists.1 (place_some_iff.2 ⟨e, he, hn⟩)
  obtain ⟨h1, h2⟩ := place_lt hp
  have hk2 : (n.kind == 2) = true := by simpa using hk
  have hf := filter_one ((rising_iff _).1 hr).2.1 h1
  rw [h2] at hf
  simp only [Node.withoutN, hp, hk2, Node.cut, Node.rid]
  rw [hf]
theorem rid_ok {n : Node} {name : ByteArray} (ho : nodeOk n = true) (hk : n.kind = 2) : nodeOk (n.rid name) = true := by
  have hr := ((dirOk_iff hk).1 ho).2.2.2
  obtain ⟨r1, r2, r3⟩ := (rising_iff _).1 hr
  refine dirOk_ents hk ho ((rising_iff _).2 ⟨fun e he => r1 e ((List.mem_filter.1 he).1), r2.filter _, ?_⟩)
  have := List.length_filter_le (fun e : Ent => !decide (e.name = name)) n.ents
  omega
theorem dir_rising {T : Tab} (hg : T.good) {i : Int} (hk : (T.at i).kind = 2) : T.has i = true ∧ nodeOk (T.at i) = true ∧ rising (T.at i).ents = true := by
  have hh : T.has i = true := has_kind'.2 (by rw [hk]; decide)
  rcases at_zero_ok hg i with z | z
  · rw [z] at hk; cases hk
  · exact ⟨hh, z, ((dirOk_iff hk).1 z).2.2.2⟩
theorem cut_spec {T : Tab} (hg : T.good) {dir : Int} {name : ByteArray} (h : (T.at dir).withoutE name = 0) :
    T.cut dir name = T.put (dir - 1).toNat ((T.at dir).rid name) ∧ nodeOk ((T.at dir).rid name) = true ∧ (T.cut dir name).good ∧ (T.cut dir name).room = T.room ∧ ∀ i, (T.cut dir name).at i = if i = dir then (T.at dir).rid name else T.at i := by
  have hk := (withoutE_iff.1 h).1
  obtain ⟨hh, ho, hr⟩ := dir_rising hg hk
  have hok := rid_ok (name := name) ho hk
  have hrng := has_rng hh
  have e : T.cut dir name = T.put (dir - 1).toNat ((T.at dir).rid name) := by
    unfold Tab.cut Tab.putE
    rw [if_pos h, if_pos hh, withoutN_rid hr h, if_pos hok]
  refine ⟨e, hok, good_cut hg _ _, by rw [e]; rfl, fun i => ?_⟩
  rw [e, at_put hg (by omega) (.inr hok), show (((dir - 1).toNat : Nat) : Int) + 1 = dir by omega]
/-! ### names that are found may be names -/
/-! ### what may be taken -/
structure TakeAt (T : Tab) (f : Found) : Prop where
  kind : (T.at f.dir).kind = 2
  wo : (T.at f.dir).withoutE f.name = 0
  find : (T.at f.dir).find f.name = f.node
  node : f.node ≠ 0
  has : T.has f.node = true
  ent : T.ent f.dir f.node
theorem take_at {T : Tab} (hg : T.good) (ht : T.tree) {c : Cred} {path : ByteArray} {fo : Bool} (h0 : (T.resolve c path fo).2 = 0) (hn : (T.resolve c path fo).1.node ≠ 0) (hne : (T.resolve c path fo).1.name ≠ ⟨#[]⟩) : TakeAt T (T.resolve c path fo).1 := by
  rcases resolve_srch hg ht c path fo with ⟨h1, _⟩ | ⟨_, h2, _, h3⟩
  · exact absurd h0 h1
  · rcases h3 with ⟨h4, _⟩ | ⟨_, _, h5, _⟩
    · exact absurd h4 hne
    · have hf : (T.at (T.resolve c path fo).1.dir).find (T.resolve c path fo).1.name ≠ 0 := by rw [h5]; exact hn
      have he := find_ent hf
      rw [h5] at he
      exact ⟨h2, withoutE_find h2 hf, h5, hn, ht.ents _ _ he, he⟩
theorem pfind_zero {T : Tab} {c : Cred} {r : Found × Int} (h : T.pfindE c r = 0) : r.2 = 0 ∧ r.1.node ≠ 0 ∧ r.1.name ≠ ⟨#[]⟩ ∧ T.can c r.1.dir 2 = true ∧ T.mayTake c r.1 = true := by
  unfold Tab.pfindE at h
  split at h
  · rename_i q; exact absurd h q
  rename_i q1
  split at h
  · cases h
  rename_i q2
  split at h
  · cases h
  rename_i q3
  split at h
  · cases h
  rename_i q4
  split at h
  · cases h
  rename_i q5
  exact ⟨Decidable.of_not_not q1, q2, q3, by simpa using q4, by simpa using q5⟩
end Abs
end Go.Proofs.YtpmnfbgnlanpoaaGreat
