import Derived.Test.YtpifnlodilcgkaaIC
import Derived.Test.YtpifnlodilcgkaaIE
import Derived.Test.YtpifnlodilcgkaaIG
import Derived.Test.YtpifnlodilcgkaaGI
set_option linter.unusedVariables false
namespace Go.Proofs.Ytpifnlodilcgkaa
namespace Abs
set_option maxRecDepth 10000
attribute [local irreducible] AOps AW ACalls thenQ inBlk noGoto

/-! ### BuildAgain: the plain law -/
def rho (O : List Int) (i : Int) : Int := (((placeI O i).getD 0 : Nat) : Int) + 1
def ren (O : List Int) (e : Ent) : Ent := ⟨e.name, rho O e.node⟩
def mir (T : Tab) (O : List Int) (c : Nat) (d : Int) : Node := { T.at d with ents := ((T.at d).ents.take c).map (ren O) }
def cq (k j q n : Nat) : Nat := if q < k then n else if q = k then j else 0
def pre (a O : List Int) : Prop := ∃ t, O = a ++ t
theorem pre_refl (O : List Int) : pre O O := ⟨[], by simp⟩
theorem pre_trans {a b c : List Int} (h : pre a b) (k : pre b c) : pre a c := by
  obtain ⟨t, rfl⟩ := h
  obtain ⟨u, rfl⟩ := k
  exact ⟨t ++ u, by rw [List.append_assoc]⟩
theorem pre_get {a O : List Int} (h : pre a O) {q : Nat} {d : Int} (hq : a[q]? = some d) : O[q]? = some d := by
  obtain ⟨t, rfl⟩ := h
  have hl := (List.getElem?_eq_some_iff.1 hq).1
  rw [List.getElem?_append_left hl]; exact hq
theorem placeI_get {l : List Int} {i : Int} {k : Nat} (h : placeI l i = some k) : l[k]? = some i := by
  unfold placeI at h
  rw [List.findIdx?_eq_some_iff_getElem] at h
  obtain ⟨hk, h1, _⟩ := h
  rw [List.getElem?_eq_getElem hk]
  simpa using h1
theorem placeI_nodup {l : List Int} (hn : l.Nodup) {i : Int} {k : Nat} (h : l[k]? = some i) : placeI l i = some k := by
  obtain ⟨hk, h1⟩ := List.getElem?_eq_some_iff.1 h
  refine placeI_some hk h1 fun j hj hjk e => ?_
  exact (List.pairwise_iff_getElem.1 hn) j k hj hk hjk (e.trans h1.symm)
theorem nodup_inj {l : List Int} (hn : l.Nodup) {i : Int} {j k : Nat} (hj : l[j]? = some i) (hk : l[k]? = some i) : j = k := by
  have h1 := placeI_nodup hn hj
  rw [placeI_nodup hn hk] at h1
  exact (Option.some.inj h1).symm
theorem rho_get {O : List Int} (hn : O.Nodup) {i : Int} {k : Nat} (h : O[k]? = some i) : rho O i = (k : Int) + 1 := by
  unfold rho; rw [placeI_nodup hn h]; rfl
theorem tellE_pre (T : Tab) (k : Nat) (s : List Int × List Raw) (e : Ent) : pre s.1 (T.tellE k s e).1 := by
  unfold Tab.tellE
  split
  · exact pre_refl _
  · exact ⟨_, rfl⟩
theorem tellN_pre {T : Tab} (k : Nat) : ∀ {l : List Ent} {s : List Int × List Raw}, pre s.1 (T.tellN k s l).1
  | [], s => pre_refl _
  | e :: l, s => pre_trans (tellE_pre T k s e) (tellN_pre (l := l) (s := T.tellE k s e) k)
theorem tellL_pre {T : Tab} : ∀ {f k : Nat} {s : List Int × List Raw}, pre s.1 (T.tellL f k s).1
  | 0, k, s => pre_refl _
  | f + 1, k, s => by
    rw [Tab.tellL]
    cases h : s.1[k]? with
    | none => exact pre_refl _
    | some d => exact pre_trans (tellN_pre k) (tellL_pre (f := f) (k := k + 1))
theorem insE_end {new : Ent} : ∀ {l : List Ent}, (∀ x ∈ l, tl x.name < tl new.name) → insE new l = l ++ [new]
  | [], _ => rfl
  | a :: l, h => by
    rw [insE, if_neg (fun q => by have := h a List.mem_cons_self; exact absurd (List.lt_trans q this) (List.lt_irrefl _)), insE_end (fun x hx => h x (List.mem_cons_of_mem _ hx))]; rfl
theorem cntE_links {T : Tab} (hg : T.good) {d : Int} (hd : T.has d = true) (i : Int) : (cntE (T.at d) i : Int) ≤ T.links i := by
  have hr := has_rng hd
  have h := links_put hg (k := (d - 1).toNat) (by omega) (n := Node.zero) (.inl rfl) i
  rw [← at_nd hr.1, cntE_zero] at h
  have h2 := links_nonneg (T.put (d - 1).toNat Node.zero) i
  omega
theorem two_cnt {l : List Ent} {c j : Nat} (hcj : c < j) {x y : Ent} (hc : l[c]? = some x) (hj : l[j]? = some y) (hxy : x.node = y.node) : 2 ≤ cnt y.node (l.map (·.node)) := by
  have h0 : l = l.take j ++ l.drop j := (List.take_append_drop j l).symm
  rw [h0, List.map_append, cnt_append]
  have hcn : ∀ {A : List Ent} {z : Ent}, z ∈ A → 0 < cnt z.node (A.map (·.node)) := fun {A z} hz => by
    unfold cnt
    exact List.length_pos_iff_exists_mem.2 ⟨z.node, List.mem_filter.2 ⟨List.mem_map.2 ⟨z, hz, rfl⟩, by simp⟩⟩
  have h1 : x ∈ l.take j := by
    have : (l.take j)[c]? = some x := by rw [List.getElem?_take, if_pos hcj]; exact hc
    exact List.mem_of_getElem? this
  have h2 : y ∈ l.drop j := by
    have : (l.drop j)[0]? = some y := by rw [List.getElem?_drop]; exact hj
    exact List.mem_of_getElem? this
  have g1 := hcn h1
  have g2 := hcn h2
  rw [hxy] at g1
  omega
theorem bare_ok {n : Node} (h : nodeOk n = true) : nodeOk { n with ents := [] } = true := by
  rcases nodeOk_kind0 h with e | e | e
  · unfold nodeOk at h ⊢; rw [e] at h; simp only [e] at h ⊢; simp at h ⊢
    exact ⟨h.1, ⟨h.2.1.2, h.2.2⟩⟩
  · unfold nodeOk at h ⊢; rw [e] at h; simp only [e] at h ⊢; simp at h ⊢
    refine ⟨h.1, ⟨h.2.1, rfl⟩⟩
  · unfold nodeOk at h ⊢; rw [e] at h; simp only [e] at h ⊢; simp at h ⊢
    exact ⟨h.1, ⟨⟨h.2.1.1.1, h.2.1.2⟩, h.2.2⟩⟩
structure Sim (T : Tab) (O : List Int) (k j : Nat) (ord : List Int) (U : Tab) : Prop where
  bt : BT U ord.length
  room : U.room = T.room
  at_ : ∀ (q : Nat) (d : Int), ord[q]? = some d → U.at ((q : Int) + 1) = mir T O (cq k j q (T.at d).ents.length) d
structure Fol (T : Tab) (O : List Int) (room : Int) (k j : Nat) (s : List Int × List Raw) : Prop where
  ti : TI T s
  ex : ∃ U, (build room s.2).1 = some U ∧ Sim T O k j s.1 U
  seen : ∀ i ∈ s.1, i ≠ 1 → ∃ q d c e, s.1[q]? = some d ∧ (T.at d).ents[c]? = some e ∧ e.node = i ∧ (q < k ∨ (q = k ∧ c < j))
theorem from_app : ∀ {l l2 : List Raw} {U U1 : Tab} {i : Int}, (buildFrom U i l).1 = some U1 → buildFrom U i (l ++ l2) = buildFrom U1 (i + l.length) l2
  | [], l2, U, U1, i, h => by cases h; simp
  | r :: l, l2, U, U1, i, h => by
    rw [buildFrom_cons] at h
    split at h
    · rename_i h0
      rw [List.cons_append, buildFrom_cons, if_pos h0, from_app h]
      congr 1
      simp only [List.length_cons]; omega
    · cases h
theorem build_app1 {room : Int} {l : List Raw} {U : Tab} (h : (build room l).1 = some U) {r : Raw} (he : (r.one U).2 = 0) : (build room (l ++ [r])).1 = some (r.one U).1 := by
  cases l with
  | nil => cases h
  | cons a l =>
    rw [List.cons_append]
    rw [build_cons] at h ⊢
    split at h
    · cases h
    · rename_i h0
      rw [if_neg h0]
      split at h
      · cases h
      · rename_i h1
        rw [if_neg h1, from_app h, buildFrom_cons, if_pos he]; rfl
theorem one_eq {U : Tab} {r : Raw} {U1 : Tab} {id : Int} (hp : U.has r.parent = true) (ht : r.told U = (U1, id, 0)) (hg1 : U1.good) (hp1 : U1.has r.parent = true) (hw : (U1.at r.parent).withE r.name id = 0) :
    r.one U = (U1.put (r.parent - 1).toNat ((U1.at r.parent).withN r.name id), 0) := by
  unfold Raw.one
  rw [if_pos hp, ht]
  simp only [not_true_eq_false, if_false]
  rw [if_neg (fun q => q hw), (put_with hg1 hp1 hw).1]
end Abs
end Go.Proofs.Ytpifnlodilcgkaa

set_option linter.unusedVariables false
namespace Go.Proofs.Ytpifnlodilcgkaa
namespace Abs
set_option maxRecDepth 10000
attribute [local irreducible] AOps AW ACalls thenQ inBlk noGoto
/-- One entry more. -/
theorem fol_step {T : Tab} (hg : T.good) (ht : T.tree) {O : List Int} (hO : O.Nodup) {room : Int} {k j : Nat} {s : List Int × List Raw} (h : Fol T O room k j s) {d : Int} (hd : s.1[k]? = some d) {e : Ent} (he : (T.at d).ents[j]? = some e)
    (hpre : pre (T.tellE k s e).1 O) : Fol T O room k (j + 1) (T.tellE k s e) := by
  obtain ⟨U, hU, hS⟩ := h.ex
  have hk : k < s.1.length := (List.getElem?_eq_some_iff.1 hd).1
  have hj : j < (T.at d).ents.length := (List.getElem?_eq_some_iff.1 he).1
  have hem : e ∈ (T.at d).ents := List.mem_of_getElem? he
  have hdm : d ∈ s.1 := List.mem_of_getElem? hd
  have hdh := h.ti.has d hdm
  have hent : T.ent d e.node := ⟨e, hem, rfl⟩
  have heh := ht.ents d e.node hent
  have hzd := at_zero_ok hg d
  have hok : nodeOk (T.at d) = true := by
    rcases hzd with z | z
    · rw [z] at hem; cases hem
    · exact z
  have hkd : (T.at d).kind = 2 := by
    by_cases q : (T.at d).kind = 2
    · exact q
    · rw [nodir_ents0 hok q] at hem; cases hem
  have hr3 := (rising_iff _).1 ((dirOk_iff hkd).1 hok).2.2.2
  have hP := hS.at_ k d hd
  rw [show cq k j k (T.at d).ents.length = j by unfold cq; rw [if_neg (Nat.lt_irrefl k), if_pos rfl]] at hP
  have hpU : U.has ((k : Int) + 1) = true := (hS.bt.has _).2 ⟨by omega, by omega⟩
  have hlt : ∀ x ∈ (T.at d).ents.take j, ltE x e := fun x hx => by
    obtain ⟨c, hc, rfl⟩ := List.mem_iff_getElem.1 hx
    have hcj : c < j := by rw [List.length_take] at hc; omega
    have := (List.pairwise_iff_getElem.1 hr3.2.1) c j (by omega) hj hcj
    rw [List.getElem_take]
    rw [(List.getElem?_eq_some_iff.1 he).2] at this
    exact this
  have heok := hr3.1 e hem
  have hPk : (mir T O j d).kind = 2 := hkd
  have hwE : ∀ id : Int, 1 ≤ id → (mir T O j d).withE e.name id = 0 := fun id hid => by
    refine withE_ok hPk heok.1 hid (fun x hx hn => ?_) ?_
    · obtain ⟨y, hy, rfl⟩ := List.mem_map.1 hx
      have := hlt y hy
      unfold ltE at this
      have hn' : y.name = e.name := hn
      rw [hn'] at this
      exact List.lt_irrefl _ this
    · show (((T.at d).ents.take j).map (ren O)).length < 8
      rw [List.length_map, List.length_take]; omega
  have hwN : (mir T O j d).withN e.name (rho O e.node) = mir T O (j + 1) d := by
    have h1 : 1 ≤ rho O e.node := by unfold rho; omega
    rw [withN_ents (hwE _ h1)]
    unfold mir
    have : insE ⟨e.name, rho O e.node⟩ (((T.at d).ents.take j).map (ren O)) = ((T.at d).ents.take (j + 1)).map (ren O) := by
      rw [insE_end (fun x hx => by
        obtain ⟨y, hy, rfl⟩ := List.mem_map.1 hx
        exact hlt y hy), List.take_add_one, he, Option.toList_some, List.map_append]
      rfl
    simp only [this]
  have hti := h.ti.step k heh
  cases hp : placeI s.1 e.node with
  | some p =>
    have hE : T.tellE k s e = (s.1, s.2 ++ [againR ((k : Int) + 1) e.name ((p : Int) + 1)]) := by unfold Tab.tellE; rw [hp]
    rw [hE] at hpre hti ⊢
    have hpg := placeI_get hp
    have hpl : p < s.1.length := (List.getElem?_eq_some_iff.1 hpg).1
    have hrho : rho O e.node = (p : Int) + 1 := rho_get hO (pre_get hpre hpg)
    have hnd : ¬ (T.at e.node).kind = 2 := fun hk2 => by
      have hne1 : e.node ≠ 1 := fun e1 => by
        have := (links_pos hg.wf).2 ⟨d, hent⟩
        rw [e1, ht.top] at this
        omega
      have hl1 := (ht.dirs e.node hk2 hne1).1
      obtain ⟨q, d2, c, e2, g1, g2, g3, g4⟩ := h.seen e.node (List.mem_of_getElem? hpg) hne1
      rcases g4 with g4 | ⟨rfl, g4⟩
      · have a1 := one_parent hg.wf hl1 hent
        have a2 := one_parent hg.wf hl1 ⟨e2, List.mem_of_getElem? g2, g3⟩
        rw [← a2, a1] at g1
        have := nodup_inj h.ti.nodup g1 hd
        omega
      · rw [hd] at g1
        cases g1
        have b1 := two_cnt g4 g2 he g3
        have b2 := cntE_links hg hdh e.node
        unfold cntE at b2
        omega
    have hpat := hS.at_ p e.node hpg
    have hph : U.has ((p : Int) + 1) = true := (hS.bt.has _).2 ⟨by omega, by omega⟩
    have hto : (againR ((k : Int) + 1) e.name ((p : Int) + 1)).told U = (U, (p : Int) + 1, 0) := by
      unfold Raw.told againR
      simp only [not_true_eq_false, if_false]
      rw [if_pos hph, ← at_has hph, hpat]
      rw [if_neg (show ¬ (mir T O _ e.node).kind = 2 from hnd)]
    have hw := hwE ((p : Int) + 1) (by omega)
    rw [← hP] at hw
    have hone := one_eq (r := againR ((k : Int) + 1) e.name ((p : Int) + 1)) hpU hto hS.bt.good hpU hw
    have hb1 := build_app1 hU (by rw [hone])
    have hb2 := (bt_one hS.bt (by rw [hone])).1
    rw [if_pos (show (againR ((k : Int) + 1) e.name ((p : Int) + 1)).kind = 4 from rfl)] at hb2
    have hat := (put_with hS.bt.good hpU hw).2.2.2.1
    rw [hone] at hb1 hb2
    refine ⟨hti, ⟨_, hb1, hb2, hS.room, fun q d2 hq => ?_⟩, fun i hi hne => ?_⟩
    · show (U.put ((k : Int) + 1 - 1).toNat ((U.at ((k : Int) + 1)).withN e.name ((p : Int) + 1))).at ((q : Int) + 1) = _
      rw [hat]
      by_cases hqk : q = k
      · subst hqk
        rw [hd] at hq
        cases hq
        rw [if_pos rfl, hP, ← hrho, hwN]
        unfold cq
        rw [if_neg (Nat.lt_irrefl q), if_pos rfl]
      · rw [if_neg (by omega), hS.at_ q d2 hq]
        unfold cq
        by_cases q1 : q < k
        · rw [if_pos q1, if_pos q1]
        · rw [if_neg q1, if_neg q1, if_neg hqk, if_neg hqk]
    · obtain ⟨q, d2, c, e2, g1, g2, g3, g4⟩ := h.seen i hi hne
      exact ⟨q, d2, c, e2, g1, g2, g3, by omega⟩
  | none =>
    have hE : T.tellE k s e = (s.1 ++ [e.node], s.2 ++ [T.rawOf e.node ((k : Int) + 1) e.name]) := by unfold Tab.tellE; rw [hp]
    rw [hE] at hpre hti ⊢
    have hrho : rho O e.node = (s.1.length : Int) + 1 := rho_get hO (pre_get hpre (by
      show (s.1 ++ [e.node])[s.1.length]? = _
      rw [List.getElem?_append_right (Nat.le_refl _), Nat.sub_self]; rfl))
    have hoke : nodeOk (T.at e.node) = true := by
      rcases at_zero_ok hg e.node with z | z
      · have := has_kind'.1 heh
        rw [z] at this; exact absurd rfl this
      · exact z
    have hke := nodeOk_kind0 hoke
    have hmk : (T.rawOf e.node ((k : Int) + 1) e.name).made = { T.at e.node with ents := [] } := rfl
    have hk4 : ¬ (T.rawOf e.node ((k : Int) + 1) e.name).kind = 4 := by
      show ¬ (T.at e.node).kind = 4
      omega
    have hlen : s.1.length + 1 ≤ T.room.toNat := by
      have := phpI T.room.toNat (s.1 ++ [e.node]) hti.nodup (fun x hx => by
        have h1 := has_rng (hti.has x hx)
        omega)
      simpa using this
    have hlt2 : (s.1.length : Int) < U.room := by rw [hS.room]; omega
    have ha0 : (U.add (T.rawOf e.node ((k : Int) + 1) e.name).made).2.2 = 0 := by
      unfold Tab.add
      rw [hmk, if_pos (bare_ok hoke), free_bt1 hS.bt hlt2]
    obtain ⟨a1, a2, a3, a4, a5, a6, a7⟩ := bt_add hS.bt ha0
    have hto : (T.rawOf e.node ((k : Int) + 1) e.name).told U = (U.put ((s.1.length : Int)).toNat (T.rawOf e.node ((k : Int) + 1) e.name).made, (s.1.length : Int) + 1, 0) := by
      unfold Raw.told
      rw [if_pos hk4, a3]
    have hP1 : (U.put ((s.1.length : Int)).toNat (T.rawOf e.node ((k : Int) + 1) e.name).made).at ((k : Int) + 1) = mir T O j d := by
      rw [a5, if_neg (by omega), hP]
    have hp1 : (U.put ((s.1.length : Int)).toNat (T.rawOf e.node ((k : Int) + 1) e.name).made).has ((k : Int) + 1) = true := has_kind'.2 (by rw [hP1, hPk]; decide)
    have hw := hwE ((s.1.length : Int) + 1) (by omega)
    rw [← hP1] at hw
    have hone := one_eq (r := T.rawOf e.node ((k : Int) + 1) e.name) hpU hto a4 hp1 hw
    have hb1 := build_app1 hU (by rw [hone])
    have hb2 := (bt_one hS.bt (by rw [hone])).1
    rw [if_neg hk4] at hb2
    have hat := (put_with a4 hp1 hw).2.2.2.1
    rw [hone] at hb1 hb2
    refine ⟨hti, ⟨_, hb1, ?_, hS.room, fun q d2 hq => ?_⟩, fun i hi hne => ?_⟩
    · rw [show (((s.1 ++ [e.node]).length : Nat) : Int) = (s.1.length : Int) + 1 by simp]
      exact hb2
    · have hq' : (s.1 ++ [e.node])[q]? = some d2 := hq
      have hql : q < s.1.length + 1 := by
        have := (List.getElem?_eq_some_iff.1 hq').1
        simpa using this
      show ((U.put ((s.1.length : Int)).toNat (T.rawOf e.node ((k : Int) + 1) e.name).made).put ((k : Int) + 1 - 1).toNat (((U.put ((s.1.length : Int)).toNat (T.rawOf e.node ((k : Int) + 1) e.name).made).at ((k : Int) + 1)).withN e.name ((s.1.length : Int) + 1))).at ((q : Int) + 1) = _
      rw [hat]
      by_cases hqk : q = k
      · subst hqk
        rw [List.getElem?_append_left hk, hd] at hq'
        cases hq'
        rw [if_pos rfl, hP1, ← hrho, hwN]
        unfold cq
        rw [if_neg (Nat.lt_irrefl q), if_pos rfl]
      · rw [if_neg (by omega), a5]
        by_cases hqm : q = s.1.length
        · subst hqm
          rw [List.getElem?_append_right (Nat.le_refl _), Nat.sub_self] at hq'
          cases hq'
          rw [if_pos rfl, hmk]
          unfold cq mir
          rw [if_neg (by omega), if_neg (by omega)]
          rfl
        · rw [if_neg (by omega)]
          rw [List.getElem?_append_left (by omega)] at hq'
          rw [hS.at_ q d2 hq']
          unfold cq
          by_cases q1 : q < k
          · rw [if_pos q1, if_pos q1]
          · rw [if_neg q1, if_neg q1, if_neg hqk, if_neg hqk]
    · rcases List.mem_append.1 hi with hi | hi
      · obtain ⟨q, d2, c, e2, g1, g2, g3, g4⟩ := h.seen i hi hne
        refine ⟨q, d2, c, e2, ?_, g2, g3, by omega⟩
        show (s.1 ++ [e.node])[q]? = _
        rw [List.getElem?_append_left (List.getElem?_eq_some_iff.1 g1).1]; exact g1
      · refine ⟨k, d, j, e, ?_, he, (List.mem_singleton.1 hi).symm, .inr ⟨rfl, by omega⟩⟩
        show (s.1 ++ [e.node])[k]? = _
        rw [List.getElem?_append_left hk]; exact hd
end Abs
end Go.Proofs.Ytpifnlodilcgkaa
