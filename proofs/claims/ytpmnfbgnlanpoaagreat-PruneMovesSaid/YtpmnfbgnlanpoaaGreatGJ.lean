import Derived.Test.YtpmnfbgnlanpoaaGreatGI
set_option linter.unusedVariables false
namespace Go.Proofs.YtpmnfbgnlanpoaaGreat
namespace Abs
set_option maxRecDepth 10000
attribute [local irreducible] AOps AW ACalls thenQ inBlk noGoto

/-! ### an entry that is moved: plain law -/
structure MoveF (T : Tab) (c : Cred) (p q : Found) : Prop where
  pat : TakeAt T p
  qdir : (T.at q.dir).kind = 2
  qname : nameOk q.name = true
  qat : q.node ≠ 0 → TakeAt T q
  qnone : q.node = 0 → (T.at q.dir).find q.name = 0
  ne : q.node ≠ p.node
  nb : (T.at p.node).kind = 2 → T.below 24 q.dir p.node = false
  room : q.node = 0 → q.dir ≠ p.dir → (T.at q.dir).ents.length < 8
  over : q.node ≠ 0 → T.overE c p q = 0
  pmay : T.mayTake c p = true
  qcan : T.can c q.dir 3 = true
theorem move_facts {T : Tab} (hg : T.good) (ht : T.tree) {c : Cred} {fr tg : ByteArray} {p q : Found × Int} (hp : p = T.resolve c fr false) (hq : q = T.resolve c tg false) (hE : T.renameE c p q = 0) (hd : ¬ q.1.node = p.1.node) : MoveF T c p.1 q.1 := by
  unfold Tab.renameE at hE
  split at hE
  · rename_i h; exact absurd hE h
  rename_i h1
  have h1 : T.pfindE c p = 0 := Decidable.of_not_not h1
  obtain ⟨a1, a2, a3, a4, a5⟩ := pfind_zero h1
  split at hE
  · rename_i h; exact absurd hE h
  rename_i h2
  have h2 : q.2 = 0 := Decidable.of_not_not h2
  split at hE
  · cases hE
  rename_i h3
  split at hE
  · cases hE
  rename_i h4
  split at hE
  · cases hE
  rename_i h5
  split at hE
  · cases hE
  rename_i h6
  have hP : TakeAt T p.1 := by rw [hp] at a1 a2 a3 ⊢; exact take_at hg ht a1 a2 a3
  have hQ : q.1.node ≠ 0 → TakeAt T q.1 := fun h => by rw [hq] at h2 h h3 ⊢; exact take_at hg ht h2 h h3
  have hqd : (T.at q.1.dir).kind = 2 ∧ (q.1.node = 0 → (T.at q.1.dir).find q.1.name = 0) := by
    rw [hq] at h2 h3 ⊢
    rcases resolve_srch hg ht c tg false with ⟨z, _⟩ | ⟨_, z2, _, z3⟩
    · exact absurd h2 z
    · refine ⟨z2, fun z => ?_⟩
      rcases z3 with ⟨z4, _⟩ | ⟨_, _, z5, _⟩
      · exact absurd z4 h3
      · rw [z5]; exact z
  refine ⟨hP, hqd.1, by rw [hq] at h2 h3 ⊢; exact resolve_nameOk hg h2 h3, hQ, hqd.2, hd, fun k => ?_, fun z1 z2 => ?_, fun z => ?_, a5, by simpa using h4⟩
  · cases hb : T.below 24 q.1.dir p.1.node with
    | false => rfl
    | true => exact absurd ⟨k, hb⟩ h5
  · have : ¬ 8 ≤ ((T.at q.1.dir).ents.length : Int) := fun z => h6 ⟨z1, z2, z⟩
    omega
  · rw [if_pos z] at hE; exact hE
def Tab.two (T : Tab) (p q : Found) : Tab := if q.node = 0 then T.cut p.dir p.name else (T.cut p.dir p.name).cut q.dir q.name
structure TwoF (T : Tab) (p q : Found) (B : Tab) : Prop where
  good : B.good
  room : B.room = T.room
  same : ∀ i, ∃ l, B.at i = { T.at i with ents := l }
  mem : ∀ i e, e ∈ (B.at i).ents ↔ e ∈ (T.at i).ents ∧ ¬ (i = p.dir ∧ e.name = p.name) ∧ ¬ (q.node ≠ 0 ∧ i = q.dir ∧ e.name = q.name)
  withE : (B.at q.dir).withE q.name p.node = 0
theorem names_apart {T : Tab} {c : Cred} {p q : Found} (h : MoveF T c p q) (hq : q.node ≠ 0) : ¬ (p.dir = q.dir ∧ p.name = q.name) := fun ⟨e1, e2⟩ => h.ne (by
  have := (h.qat hq).find
  rw [← e1, ← e2, h.pat.find] at this
  exact this.symm)
theorem dir_len {T : Tab} (hg : T.good) {i : Int} (hk : (T.at i).kind = 2) : (T.at i).ents.length ≤ 8 := ((rising_iff _).1 (dir_rising hg hk).2.2).2.2
theorem two_facts {T : Tab} (hg : T.good) {c : Cred} {p q : Found} (h : MoveF T c p q) : TwoF T p q (T.two p q) := by
  obtain ⟨e1, o1, g1, r1, at1⟩ := cut_spec hg h.pat.wo
  have hpn : 1 ≤ p.node := (has_rng h.pat.has).1
  by_cases hq : q.node = 0
  · have hB : T.two p q = T.cut p.dir p.name := if_pos hq
    rw [hB]
    have hmem : ∀ i e, e ∈ ((T.cut p.dir p.name).at i).ents ↔ e ∈ (T.at i).ents ∧ ¬ (i = p.dir ∧ e.name = p.name) ∧ ¬ (q.node ≠ 0 ∧ i = q.dir ∧ e.name = q.name) := fun i e => by
      rw [at1]
      by_cases hi : i = p.dir
      · rw [if_pos hi, hi, mem_rid]
        exact ⟨fun ⟨z1, z2⟩ => ⟨z1, fun z => z2 z.2, fun z => z.1 hq⟩, fun ⟨z1, z2, _⟩ => ⟨z1, fun z => z2 ⟨rfl, z⟩⟩⟩
      · rw [if_neg hi]
        exact ⟨fun z => ⟨z, fun y => hi y.1, fun y => y.1 hq⟩, fun z => z.1⟩
    have hkd : ((T.cut p.dir p.name).at q.dir).kind = 2 := by
      rw [at1]; split
      · rename_i z; rw [← z]; exact h.qdir
      · exact h.qdir
    refine ⟨g1, r1, fun i => ?_, hmem, withE_ok hkd h.qname hpn (fun e he hn => ?_) ?_⟩
    · rw [at1]; split
      · rename_i z; rw [z]; exact ⟨_, rfl⟩
      · exact ⟨_, rfl⟩
    · have h1 := ((hmem q.dir e).1 he).1
      exact (find_zero (dir_rising hg h.qdir).2.2).1 (h.qnone hq) e h1 hn
    · by_cases hdd : q.dir = p.dir
      · rw [at1, if_pos hdd]
        have h8 := dir_len hg h.pat.kind
        have := rid_len (withoutE_iff.1 h.pat.wo).2
        omega
      · rw [at1, if_neg hdd]; exact h.room hq hdd
  · have hB : T.two p q = (T.cut p.dir p.name).cut q.dir q.name := if_neg hq
    rw [hB]
    have hQ := h.qat hq
    obtain ⟨hc1, hc2, hc3⟩ := cut_comm hg h.pat.wo hQ.wo (names_apart h hq)
    obtain ⟨e2, o2, g2, r2, at2⟩ := cut_spec g1 hc2
    have hmem : ∀ i e, e ∈ (((T.cut p.dir p.name).cut q.dir q.name).at i).ents ↔ e ∈ (T.at i).ents ∧ ¬ (i = p.dir ∧ e.name = p.name) ∧ ¬ (q.node ≠ 0 ∧ i = q.dir ∧ e.name = q.name) := fun i e => by
      rw [at2]
      have m1 : ∀ i, e ∈ ((T.cut p.dir p.name).at i).ents ↔ e ∈ (T.at i).ents ∧ ¬ (i = p.dir ∧ e.name = p.name) := fun i => by
        rw [at1]
        by_cases hi : i = p.dir
        · rw [if_pos hi, hi, mem_rid]
          exact ⟨fun ⟨z1, z2⟩ => ⟨z1, fun z => z2 z.2⟩, fun ⟨z1, z2⟩ => ⟨z1, fun z => z2 ⟨rfl, z⟩⟩⟩
        · rw [if_neg hi]
          exact ⟨fun z => ⟨z, fun y => hi y.1⟩, fun z => z.1⟩
      by_cases hi : i = q.dir
      · rw [if_pos hi, mem_rid, m1, hi]
        exact ⟨fun ⟨⟨z1, z2⟩, z3⟩ => ⟨z1, z2, fun z => z3 z.2.2⟩, fun ⟨z1, z2, z3⟩ => ⟨⟨z1, z2⟩, fun z => z3 ⟨hq, rfl, z⟩⟩⟩
      · rw [if_neg hi, m1]
        exact ⟨fun ⟨z1, z2⟩ => ⟨z1, z2, fun z => hi z.2.1⟩, fun ⟨z1, z2, _⟩ => ⟨z1, z2⟩⟩
    have hkd : (((T.cut p.dir p.name).cut q.dir q.name).at q.dir).kind = 2 := by
      rw [at2, if_pos rfl, at1]
      show (if q.dir = p.dir then (T.at p.dir).rid p.name else T.at q.dir).kind = 2
      split
      · exact h.pat.kind
      · exact h.qdir
    refine ⟨g2, r2.trans r1, fun i => ?_, hmem, withE_ok hkd h.qname hpn (fun e he hn => ?_) ?_⟩
    · rw [at2]
      split
      · rename_i z
        rw [at1]
        split
        · rename_i z2; rw [z, z2]; exact ⟨_, rfl⟩
        · rw [z]; exact ⟨_, rfl⟩
      · rw [at1]
        split
        · rename_i z2; rw [z2]; exact ⟨_, rfl⟩
        · exact ⟨_, rfl⟩
    · exact ((hmem q.dir e).1 he).2.2 ⟨hq, rfl, hn⟩
    · rw [at2, if_pos rfl]
      have h8 := dir_len g1 (withoutE_iff.1 hc2).1
      have := rid_len (withoutE_iff.1 hc2).2
      omega
/-- What is moved, in whatever order the entries are taken away. -/
theorem move_eq {T : Tab} (hg : T.good) {c : Cred} {p q : Found} (h : MoveF T c p q) (op : List Int) :
    (if ¬ q.node = 0 then (T.cut q.dir q.name).moveF p q op else T.moveF p q op) = ((((T.two p q).putE q.dir (((T.two p q).at q.dir).withN q.name p.node)).1.freeN q.node op).1, 0) := by
  have hB := two_facts hg h
  have hh : (T.two p q).has q.dir = true := has_kind'.2 (by
    obtain ⟨l, hl⟩ := hB.same q.dir
    rw [hl]; show (T.at q.dir).kind ≠ 0; rw [h.qdir]; decide)
  have hE : (if ¬ q.node = 0 then (T.cut q.dir q.name).moveF p q op else T.moveF p q op) = ((((T.two p q).into q.dir q.name p.node).1.freeN q.node op).1, ((T.two p q).into q.dir q.name p.node).2) := by
    unfold Tab.two
    by_cases hq : q.node = 0
    · rw [if_neg (fun z => z hq), if_pos hq]; rfl
    · rw [if_pos hq, if_neg hq, (cut_comm hg h.pat.wo (h.qat hq).wo (names_apart h hq)).1]; rfl
  rw [hE]
  unfold Tab.into
  rw [if_pos hB.withE]
  have h2 : ((T.two p q).putE q.dir (((T.two p q).at q.dir).withN q.name p.node)).2 = 0 := by rw [(put_with hB.good hh hB.withE).1]
  rw [h2]
theorem renameF_err {T : Tab} {c : Cred} {p q : Found × Int} (op : List Int) (h : ¬ T.renameE c p q = 0) : T.renameF c p q op = (T, T.renameE c p q) := by
  unfold Tab.renameF; rw [if_pos h]
theorem renameF_same {T : Tab} {c : Cred} {p q : Found × Int} (op : List Int) (h : T.renameE c p q = 0) (hd : q.1.node = p.1.node) : T.renameF c p q op = (T, 0) := by
  unfold Tab.renameF; rw [if_neg (fun z => z h), if_pos hd]
theorem renameF_move {T : Tab} (hg : T.good) (ht : T.tree) {c : Cred} {fr tg : ByteArray} {p q : Found × Int} (hp : p = T.resolve c fr false) (hq : q = T.resolve c tg false) (op : List Int) (h : T.renameE c p q = 0) (hd : ¬ q.1.node = p.1.node) :
    T.renameF c p q op = ((((T.two p.1 q.1).putE q.1.dir (((T.two p.1 q.1).at q.1.dir).withN q.1.name p.1.node)).1.freeN q.1.node op).1, 0) := by
  unfold Tab.renameF
  rw [if_neg (fun z => z h), if_neg hd]
  exact move_eq hg (move_facts hg ht hp hq h hd) op
end Abs
end Go.Proofs.YtpmnfbgnlanpoaaGreat
