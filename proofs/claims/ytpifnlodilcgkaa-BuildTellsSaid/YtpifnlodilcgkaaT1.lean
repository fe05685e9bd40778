import Derived.Test.YtpifnlodilcgkaaN1
set_option linter.unusedVariables false
namespace Go.Proofs.Ytpifnlodilcgkaa
namespace Abs
set_option maxRecDepth 10000
attribute [local irreducible] AOps AW AP ACalls thenQ inBlk noGoto

/-! ### package table -/
theorem ltb {a b : Nat} (h : Nat.ble (a + 1) b = true) : a < b := Nat.le_of_ble_eq_true h
theorem flat_bytes (s : ByteArray) : flatA (encBytes s).flatten = true := by
  rw [encBytes, flatten_single]
  simp only [flatA, List.all_eq_true]
  intro x hx
  obtain ⟨c, _, rfl⟩ := List.mem_map.1 hx
  rfl
theorem flat_ents (l : List Ent) : flatA (l.map encEnt).flatten = true := by
  simp only [flatA, List.all_eq_true]
  intro x hx
  obtain ⟨y, hy, hxy⟩ := List.mem_flatten.1 hx
  obtain ⟨e, _, rfl⟩ := List.mem_map.1 hy
  simp only [encEnt, List.mem_cons, List.not_mem_nil, or_false] at hxy
  rcases hxy with rfl | rfl <;> rfl
theorem Uni.flat_set {es : Nat} : ∀ {xs : List (List AVal)}, Uni es xs → ∀ (k : Nat) (r : List AVal), k < xs.length → xs.flatten.take (k * es) ++ r ++ xs.flatten.drop (k * es + es) = (xs.set k r).flatten
  | [], _, k, r, h => absurd h (Nat.not_lt_zero _)
  | x :: xs, hu, 0, r, _ => by
    have hx : x.length = es := hu x (List.mem_cons_self)
    simp [← hx]
  | x :: xs, hu, k + 1, r, h => by
    have hx : x.length = es := hu x (List.mem_cons_self)
    have ih := Uni.flat_set (xs := xs) (fun y hy => hu y (List.mem_cons_of_mem _ hy)) k r (by simpa using h)
    have e : (k + 1) * es = x.length + k * es := by rw [Nat.succ_mul, hx]; omega
    rw [e, List.flatten_cons, List.take_length_add_append, Nat.add_assoc, List.drop_length_add_append, List.set_cons_succ, List.flatten_cons, ← ih]
    simp only [List.append_assoc]
def Tab.put (T : Tab) (k : Nat) (n : Node) : Tab := ⟨T.room, T.nodes.set k n⟩
theorem encTab_put (T : Tab) (k : Nat) (n : Node) (hk : k < T.nodes.length) : (encTab T).take (1 + k * 7) ++ encNode n ++ (encTab T).drop (1 + k * 7 + 7) = encTab (T.put k n) := by
  have := (uni_nodes T.nodes).flat_set k (encNode n) (by simpa using hk)
  rw [show 1 + k * 7 = (k * 7) + 1 by omega, show k * 7 + 1 + 7 = (k * 7 + 7) + 1 by omega, encTab, List.take_succ_cons, List.drop_succ_cons, encTab, Tab.put, List.map_set, ← this]
  rfl
def noTok : AVal → AVal
  | .sl xs _ => .sl xs .no
  | v => v
theorem wk_noTok (v : AVal) : Wk v (noTok v) := by
  cases v <;> first | exact .refl _ | exact .sl _ _
theorem wk_noToks (l : List AVal) : Wk (.agg l) (.agg (l.map noTok)) := .agg (by simp) (fun j h h' => by simp only [List.getElem_map]; exact wk_noTok _)
theorem wk_agg {l l' : List AVal} (h : l.map noTok = l') : Wk (.agg l) (.agg l') := h ▸ wk_noToks l
theorem wk_rows {xs ys : List (List AVal)} {o : Own} (h : xs.map (fun r => r.map noTok) = ys) : Wk (.sl xs o) (.sl ys .no) := by
  subst h
  exact .sls (by simp) (fun i h h' => by simp) (fun i h h' j k k' => by simp only [List.getElem_map]; exact wk_noTok _)
theorem own_c {n : Node} {H : AHeap} {K : AVal → AHeap → Prop} (hs : n.small) (hK : K (.agg (encNode n)) H) : ACalls Try.prog 37 [.agg (encNode n)] H K := by
  refine acalls_body Try.func37 rfl rfl rfl ?_
  repeat (first|apply w6|apply w7)
  refine s_box rfl rfl rfl (fun b1 h1 => ?_)
  skip
  refine s_alloc tk rfl rfl rfl (fun b2 h2 => ?_)
  obtain ⟨n21, h2'⟩ := put_none h2
  repeat (first|(apply w1;apply rfl;apply rfl)|apply w4|apply w5|apply w6|apply w7)
  refine s_load tk rfl rfl (.inl (by rw [put_ne (Ne.symm n21), put_same])) rfl rfl ?_
  skip
  refine s_call rfl rfl fk48 ?_
  refine clone_bytes (uni_bytes _) (flat_bytes _) (by rw [encBytes_len]; have := hs.1; omega) ?_
  repeat ((apply w1;apply rfl;apply rfl))
  refine s_store tk rfl rfl (by rw [put_ne (Ne.symm n21), put_same]) rfl (ltb rfl) rfl ?_
  repeat (first|(apply w1;apply rfl;apply rfl)|apply w4|apply w5|apply w6|apply w7)
  refine s_load tk rfl rfl (.inl (put_same _ _ _)) rfl rfl ?_
  skip
  refine s_call rfl rfl fk73 ?_
  refine clone_ents (uni_ents _) (flat_ents _) (by rw [ents_len]; have := hs.2; omega) ?_
  repeat ((apply w1;apply rfl;apply rfl))
  refine s_store tk rfl rfl (put_same _ _ _) rfl (ltb rfl) rfl ?_
  repeat (first|apply w4|apply w5|apply w6|apply w7)
  refine s_loadw tk rfl rfl (.inl (put_same _ _ _)) rfl rfl ?_
  skip
  refine s_storew tk rfl rfl (by rw [put_ne n21, put_ne n21, put_same]) rfl rfl rfl rfl ?_
  repeat (first|apply w4|apply w5|apply wd)
  refine rt1c rfl rfl (.inl (put_same _ _ _)) rfl rfl (.refl _) ?_ hK
  exact sub_new h2' (sub_new h1 (sub_new h1 (sub_new h2' (sub_new h1 (AHeap.sub_refl _)))))
theorem at_c {t : Nat} {T : Tab} (hw : T.wf) {i : Int} {H : AHeap} (hT : Rd H t (encTab T)) {K : AVal → AHeap → Prop}
    (h1 : T.has i = true → K (.ptr t (1 + (i - 1).toNat * 7)) H) (h0 : T.has i = false → K .nilp H) : ACalls Try.prog 45 [.ptr t 0, .i i] H K := by
  refine acalls_body Try.func45 rfl rfl rfl ?_
  repeat (first|(apply w1;apply rfl;apply rfl)|(apply w2;apply rfl)|apply w4|apply w5|apply w6|apply w7)
  refine s_gsplit rfl rfl (fun g1 => ?_) (fun g1 => ?_)
  · repeat (first|(apply w1;apply rfl;apply rfl)|(apply w3;apply rfl;apply rfl)|apply w4|apply w5|apply w6|apply w7|(apply w8;apply rfl)|apply wd|apply we)
    exact rt1 rfl rfl (.refl _) (AHeap.sub_refl _) (h0 (by simp [Tab.has] at g1 ⊢; omega))
  repeat (first|(apply w1;apply rfl;apply rfl)|(apply w2;apply rfl))
  refine s_load tk rfl rfl hT rfl rfl ?_
  repeat (first|(apply w1;apply rfl;apply rfl)|(apply w2;apply rfl))
  refine s_gsplit rfl rfl (fun g2 => ?_) (fun g2 => ?_)
  · repeat (first|(apply w1;apply rfl;apply rfl)|(apply w3;apply rfl;apply rfl)|apply w4|apply w5|apply w6|apply w7|(apply w8;apply rfl)|apply wd|apply we)
    exact rt1 rfl rfl (.refl _) (AHeap.sub_refl _) (h0 (by simp [Tab.has] at g2 ⊢; omega))
  repeat (first|(apply w1;apply rfl;apply rfl)|(apply w2;apply rfl))
  simp only [decide_eq_false_iff_not] at g1 g2
  obtain ⟨hl, ⟨hr1, hr2⟩, _⟩ := hw
  refine s_sub rfl rfl rfl (by omega) ?_
  repeat (first|(apply w1;apply rfl;apply rfl)|(apply w2;apply rfl))
  refine s_indexa tk rfl rfl rfl rfl rfl (by omega) (by omega) ?_
  repeat (first|(apply w1;apply rfl;apply rfl)|(apply w2;apply rfl))
  have hn : (i - 1).toNat < T.nodes.length := by omega
  refine s_load tk rfl rfl hT rfl ((encTab_get T (i - 1).toNat 0 (by omega)).trans (by rw [List.getElem?_eq_getElem hn]; rfl)) ?_
  repeat (first|(apply w1;apply rfl;apply rfl)|(apply w2;apply rfl)|apply w4|apply w5)
  have hk : T.has i = !decide ((T.nodes[(i - 1).toNat]).kind = 0) := by
    unfold Tab.has
    rw [List.getD_eq_getElem?_getD, List.getElem?_eq_getElem hn, decide_eq_true (show 1 ≤ i by omega), decide_eq_true (show i ≤ T.room by omega)]
    rfl
  refine aw_cond rfl (fun g3 => ?_) (fun g3 => ?_)
  · repeat (first|(apply w1;apply rfl;apply rfl)|apply w4|apply w5|apply w6|apply w7|apply wd|apply we)
    exact rt1 rfl rfl (.refl _) (AHeap.sub_refl _) (h0 (by rw [hk, g3]; rfl))
  · repeat (first|(apply w1;apply rfl;apply rfl)|apply w5|apply w6|apply w7|apply wa)
    refine s_sub rfl rfl rfl (by omega) ?_
    repeat ((apply w1;apply rfl;apply rfl))
    refine s_indexa tk rfl rfl rfl rfl rfl (by omega) (by omega) ?_
    repeat (first|(apply w1;apply rfl;apply rfl)|apply w4|apply w5|apply wd)
    exact rt1 rfl rfl (.refl _) (AHeap.sub_refl _) (h1 (by rw [hk, g3]; rfl))
end Abs
end Go.Proofs.Ytpifnlodilcgkaa

set_option linter.unusedVariables false
namespace Go.Proofs.Ytpifnlodilcgkaa
namespace Abs
set_option maxRecDepth 10000
attribute [local irreducible] AOps AW AP ACalls thenQ inBlk noGoto

def Tab.new (room : Int) : Tab := ⟨min (max room 1) 24, List.replicate 24 Node.zero⟩
theorem Node.zero_small : Node.zero.small := ⟨by decide, by decide⟩
theorem new_wf (room : Int) : (Tab.new room).wf := ⟨by simp [Tab.new], ⟨by simp only [Tab.new]; omega, by simp only [Tab.new]; omega⟩, fun n hn => by
  have := List.eq_of_mem_replicate hn
  subst this; exact Node.zero_small⟩
theorem put_wf {T : Tab} (h : T.wf) {n : Node} (hn : n.small) (k : Nat) : (T.put k n).wf := ⟨by simp [Tab.put, h.1], h.2.1, fun m hm => by
  rcases List.mem_or_eq_of_mem_set hm with hm | rfl
  · exact h.2.2 m hm
  · exact hn⟩
theorem get_small {T : Tab} (h : T.wf) (i : Int) : (T.get i).small := by
  unfold Tab.get
  rw [List.getD_eq_getElem?_getD]
  rcases Nat.lt_or_ge (i - 1).toNat T.nodes.length with hi | hi
  · rw [List.getElem?_eq_getElem hi]; exact h.2.2 _ (List.getElem_mem hi)
  · rw [List.getElem?_eq_none hi]; exact Node.zero_small
theorem has_lt {T : Tab} (h : T.wf) {i : Int} (hi : T.has i = true) : 1 ≤ i ∧ i ≤ T.room ∧ (i - 1).toNat < T.nodes.length := by
  unfold Tab.has at hi
  simp only [Bool.and_eq_true, decide_eq_true_eq] at hi
  have := h.1; have := h.2.1
  omega
theorem encTab_row {T : Tab} (h : T.wf) {i : Int} (hi : T.has i = true) : ((encTab T).drop (1 + (i - 1).toNat * 7)).take 7 = encNode (T.get i) := by
  have hl := (has_lt h hi).2.2
  rw [encTab_agg, Tab.get, List.getD_eq_getElem?_getD, List.getElem?_eq_getElem hl]
  rfl

theorem Wk.pre {l : List AVal} : ∀ (p : List AVal) {l' : List AVal}, Wk (.agg l) (.agg l') → Wk (.agg (p ++ l)) (.agg (p ++ l'))
  | [], _, h => h
  | a :: p, _, h => .cons (.refl _) (Wk.pre p h)
theorem Wk.post {q : List AVal} : ∀ {l l' : List AVal}, l.length = l'.length → Wk (.agg l) (.agg l') → Wk (.agg (l ++ q)) (.agg (l' ++ q))
  | l, l', hl, h => by
    cases h with
    | refl => exact .refl _
    | agg _ k =>
      refine .agg (by simp [hl]) (fun j h h' => ?_)
      rcases Nat.lt_or_ge j l.length with hj | hj
      · rw [List.getElem_append_left hj, List.getElem_append_left (hl ▸ hj)]; exact k j hj (hl ▸ hj)
      · rw [List.getElem_append_right hj, List.getElem_append_right (hl ▸ hj)]
        simp only [hl]; exact .refl _
theorem Wk.mid {p q l l' : List AVal} (hl : l.length = l'.length) (h : Wk (.agg l) (.agg l')) : Wk (.agg (p ++ l ++ q)) (.agg (p ++ l' ++ q)) := .post (by simp [hl]) (.pre p h)
theorem room_c {t : Nat} {T : Tab} {H : AHeap} (hT : Rd H t (encTab T)) {K : AVal → AHeap → Prop} (hK : K (.i T.room) H) : ACalls Try.prog 18 [.ptr t 0] H K := by
  refine acalls_body Try.func18 rfl rfl rfl ?_
  repeat (first|(apply w1;apply rfl;apply rfl)|apply w4|apply w5|apply w6|apply w7|(apply w9;apply rfl)|apply wa)
  refine s_load tk rfl rfl hT rfl rfl ?_
  repeat (first|(apply w1;apply rfl;apply rfl)|apply w4|apply w5|apply wd)
  exact rt1 rfl rfl (.refl _) (AHeap.sub_refl _) hK
theorem new_c {room : Int} {H : AHeap} {K : AVal → AHeap → Prop} (hK : ∀ t, H t = none → K (.ptr t 0) (H.put t (.cells (encTab (Tab.new room))))) : ACalls Try.prog 29 [.i room] H K := by
  refine acalls_body Try.func29 rfl rfl rfl ?_
  repeat (first|(apply w1;apply rfl;apply rfl)|apply w4|apply w5|apply w6|apply w7)
  refine s_build tk rfl rfl rfl rfl rfl rfl ?_
  skip
  refine s_box rfl rfl rfl (fun t ht => ?_)
  repeat (first|(apply w1;apply rfl;apply rfl)|apply w4|apply w5|apply wd)
  have hr : (if 24 < (if 1 > room then 1 else room) then 24 else if 1 > room then 1 else room) = min (max room 1) 24 := by
    split <;> split at * <;> omega
  have hK' := hK t ht
  rw [Tab.new, ← hr] at hK'
  exact rt1 rfl rfl (.refl _) (AHeap.put_sub_wk (AHeap.sub_refl _) t (.cells (wk_agg (l' := encTab ⟨if 24 < (if 1 > room then 1 else room) then 24 else if 1 > room then 1 else room, List.replicate 24 Node.zero⟩) rfl))) hK'
theorem get_c {t : Nat} {T : Tab} (hw : T.wf) {i : Int} {H : AHeap} (hT : Rd H t (encTab T)) {K : AVal → AHeap → Prop}
    (hK : K (.tup [.agg (encNode (if T.has i then T.get i else Node.zero)), .b (T.has i)]) H) : ACalls Try.prog 17 [.ptr t 0, .i i] H K := by
  refine acalls_body Try.func17 rfl rfl rfl ?_
  repeat (first|apply w6|apply w7)
  refine s_alloc tk rfl rfl rfl (fun b hb => ?_)
  have hne : t ≠ b := by rcases hT with h | h <;> exact ne_of_get hb h
  repeat (first|(apply w1;apply rfl;apply rfl)|apply w4|apply w5|apply w6|apply w7)
  refine s_call rfl rfl fk45 ?_
  refine at_c hw (by unfold Rd; rw [put_ne hne]; exact hT) (fun h1 => ?_) (fun h0 => ?_)
  · rw [h1, if_pos rfl] at hK
    repeat (first|(apply w1;apply rfl;apply rfl)|apply w4|apply w5|apply w6|apply w7|(apply w9;apply rfl)|apply wa)
    refine s_loada tk rfl rfl (by unfold Rd; rw [put_ne hne]; exact hT) rfl (by rw [encTab_len _ hw.1]; have := has_lt hw h1; have := hw.2.1; omega) (encTab_row hw h1) ?_
    skip
    refine s_call rfl rfl fk37 ?_
    refine own_c (get_small hw i) ?_
    skip
    refine s_storew tk rfl rfl (put_same _ _ _) rfl rfl rfl rfl ?_
    repeat (first|(apply w1;apply rfl;apply rfl)|apply w4|apply w5|apply wd)
    refine rt2c rfl rfl (.inl (put_same _ _ _)) rfl rfl rfl (.refl _) (sub_new hb (sub_new hb (AHeap.sub_refl _)) ) hK
  · rw [h0] at hK
    repeat (first|(apply w1;apply rfl;apply rfl)|apply w4|apply w5|apply w6|apply w7|(apply w8;apply rfl))
    refine s_build tk rfl rfl rfl rfl rfl rfl ?_
    skip
    refine s_storew tk rfl rfl (put_same _ _ _) rfl rfl rfl rfl ?_
    repeat (first|(apply w1;apply rfl;apply rfl)|apply w4|apply w5|apply wd|apply we)
    refine rt2c rfl rfl (.inl (put_same _ _ _)) rfl rfl rfl (.pair (wk_agg rfl) (.refl _)) (sub_new hb (sub_new hb (AHeap.sub_refl _)) ) hK
theorem has_off {T : Tab} (h : T.wf) {i : Int} (hi : T.has i = true) : 1 + (i - 1).toNat * 7 + 7 ≤ (encTab T).length := by
  rw [encTab_len _ h.1]; have := has_lt h hi; have := h.2.1; omega
theorem put_c {t : Nat} {T : Tab} (hw : T.wf) {i : Int} {n : Node} (hn : n.small) {H : AHeap} (hT : H t = some (.cells (encTab T))) {K : AVal → AHeap → Prop}
    (hK : if T.has i then (if nodeOk n then K (.i 0) (H.put t (.cells (encTab (T.put (i - 1).toNat n)))) else K (.i 22) H) else K (.i 2) H) : ACalls Try.prog 84 [.ptr t 0, .i i, .agg (encNode n)] H K := by
  refine acalls_body Try.func84 rfl rfl rfl ?_
  repeat (first|apply w6|apply w7)
  refine s_box rfl rfl rfl (fun b hb => ?_)
  have hne : t ≠ b := ne_of_get hb hT
  repeat (first|(apply w1;apply rfl;apply rfl)|apply w4|apply w5|apply w6|apply w7)
  refine s_call rfl rfl fk45 ?_
  refine at_c hw (.inl (by rw [put_ne hne]; exact hT)) (fun h1 => ?_) (fun h0 => ?_)
  · rw [if_pos h1] at hK
    repeat (first|(apply w1;apply rfl;apply rfl)|apply w4|apply w5|apply w6|apply w7|(apply w9;apply rfl)|apply wa)
    refine s_loadw tk rfl rfl (.inl (put_same _ _ _)) rfl rfl ?_
    skip
    refine s_call rfl rfl fk58 ?_
    refine right_c hn ?_
    repeat (first|(apply w1;apply rfl;apply rfl)|apply w4|apply w5)
    refine aw_cond rfl (fun g => ?_) (fun g => ?_)
    · have g : nodeOk n = false := by simpa using g
      rw [g] at hK
      repeat (first|(apply w1;apply rfl;apply rfl)|apply w4|apply w5|apply w6|apply w7|apply wd|apply we)
      exact rt1 rfl rfl (.refl _) (sub_new hb (AHeap.sub_refl _)) hK
    · have g : nodeOk n = true := by simpa using g
      rw [g] at hK
      repeat (first|(apply w1;apply rfl;apply rfl)|apply w5|apply w6|apply w7|apply wa)
      refine s_loadw tk rfl rfl (.inl (put_same _ _ _)) rfl rfl ?_
      skip
      refine s_call rfl rfl fk37 ?_
      refine own_c hn ?_
      repeat ((apply w1;apply rfl;apply rfl))
      refine s_storea tk rfl rfl (by rw [put_ne hne]; exact hT) rfl rfl (has_off hw h1) rfl (encTab_put T _ n (has_lt hw h1).2.2) ?_
      repeat (first|(apply w1;apply rfl;apply rfl)|apply w4|apply w5|apply w6|apply w7|apply wd)
      exact rt1 rfl rfl (.refl _) (AHeap.put_sub (sub_new hb (AHeap.sub_refl _)) _ _) hK
  · rw [h0] at hK
    repeat (first|(apply w1;apply rfl;apply rfl)|apply w4|apply w5|apply w6|apply w7|(apply w8;apply rfl)|apply wd|apply we)
    exact rt1 rfl rfl (.refl _) (sub_new hb (AHeap.sub_refl _)) hK
end Abs
end Go.Proofs.Ytpifnlodilcgkaa

set_option linter.unusedVariables false
namespace Go.Proofs.Ytpifnlodilcgkaa
namespace Abs
set_option maxRecDepth 10000
attribute [local irreducible] AOps AW AP ACalls thenQ inBlk noGoto

theorem prot_done_put {H : AHeap} {bs : List Nat} {t : Nat} {o : HObj} {Q : AHeap → Prop} (ht : t ∉ bs) (h : Q (H.put t o)) : (∀ b, b ∈ bs → ((H.prot bs).put t o) b = H.prot bs b) ∧ Q (((H.prot bs).put t o).back H bs) :=
  ⟨fun b hb => put_ne (fun e => ht (e ▸ hb)), by
    have : ((H.prot bs).put t o).back H bs = H.put t o := by
      funext x
      unfold AHeap.back AHeap.put AHeap.prot
      by_cases hx : x ∈ bs
      · have : x ≠ t := fun e => ht (e ▸ hx)
        simp [hx, this]
      · by_cases hxt : x = t <;> simp [hx, hxt]
        intro h; exact absurd h ht
    rw [this]; exact h⟩

theorem add_c {t : Nat} {T : Tab} (hw : T.wf) {n : Node} (hn : n.small) {H : AHeap} (hT : H t = some (.cells (encTab T))) {K : AVal → AHeap → Prop}
    (h0 : nodeOk n = false → K (.tup [.i 0, .i 22]) H)
    (h1 : ∀ k : Nat, nodeOk n = true → (k : Int) < T.room → (∀ j : Nat, j < k → T.has (j + 1) = true) → T.has (k + 1) = false → K (.tup [.i (k + 1), .i 0]) (H.put t (.cells (encTab (T.put k n)))))
    (h2 : nodeOk n = true → (∀ j : Nat, (j : Int) < T.room → T.has (j + 1) = true) → K (.tup [.i 0, .i 28]) H) : ACalls Try.prog 30 [.ptr t 0, .agg (encNode n)] H K := by
  refine acalls_body Try.func30 rfl rfl rfl ?_
  repeat (first|apply w6|apply w7)
  refine s_box rfl rfl rfl (fun b hb => ?_)
  have hne : t ≠ b := ne_of_get hb hT
  repeat (first|(apply w1;apply rfl;apply rfl)|apply w4|apply w5|apply w6|apply w7)
  refine s_loadw tk rfl rfl (.inl (put_same _ _ _)) rfl rfl ?_
  skip
  refine s_call rfl rfl fk58 ?_
  refine right_c hn ?_
  repeat (first|(apply w1;apply rfl;apply rfl)|apply w4|apply w5)
  refine aw_cond rfl (fun g => ?_) (fun g => ?_)
  · have g : nodeOk n = false := by simpa using g
    repeat (first|(apply w1;apply rfl;apply rfl)|apply w4|apply w5|apply w6|apply w7|apply wd|apply we)
    exact rt2 rfl rfl rfl (.refl _) (sub_new hb (AHeap.sub_refl _)) (h0 g)
  have g : nodeOk n = true := by simpa using g
  have hrm := hw.2.1
  repeat (first|(apply w1;apply rfl;apply rfl)|apply w5|apply w6|apply w7|apply wa)
  refine s_call rfl rfl fk18 ?_
  refine room_c (T := T) (.inl (by rw [put_ne hne]; exact hT)) ?_
  repeat (first|(apply w1;apply rfl;apply rfl)|apply w4|apply w5|apply wb)
  refine aw_loop (fun k : Nat => (k : Int) ≤ T.room ∧ ∀ j : Nat, j < k → T.has (j + 1) = true) (fun k => [(0, .ptr t 0), (3, .ptr b 0), (11, .i T.room), (12, .i k)]) (fun _ => H.put b (.cells (encNode n))) (fun k => T.room.toNat - k) 0 ⟨by omega, fun j hj => absurd hj (Nat.not_lt_zero _)⟩ (Fr.sub_cons rfl (Fr.sub_cons rfl (Fr.sub_cons rfl (Fr.sub_cons rfl (Fr.sub_nil _))))) (AHeap.sub_refl _) ?_
  intro k ⟨hk, hall⟩
  repeat (first|(apply w1;apply rfl;apply rfl)|apply w4|apply w5|apply w6|apply w7)
  refine aw_cond rfl (fun c => ?_) (fun c => ?_)
  · have c' : (k : Int) < T.room := by simpa using c
    repeat (first|(apply w1;apply rfl;apply rfl)|apply w4|apply w5|apply w6|apply w7|apply wa|apply wb)
    refine s_add rfl rfl rfl (by omega) ?_
    skip
    refine s_call rfl rfl fk45 ?_
    refine at_c hw (.inl (by rw [put_ne hne]; exact hT)) (fun hh => ?_) (fun hh => ?_)
    · repeat (first|(apply w1;apply rfl;apply rfl)|apply w4|apply w5|apply w7|(apply w9;apply rfl)|apply wa|apply wg)
      refine s_add rfl rfl rfl (by omega) ?_
      repeat (first|(apply w1;apply rfl;apply rfl)|apply w4|apply w5)
      refine ⟨k + 1, ⟨by omega, fun j hj => ?_⟩, by omega, Fr.sub_cons rfl (Fr.sub_cons rfl (Fr.sub_cons rfl (Fr.sub_cons rfl (Fr.sub_nil _)))), AHeap.sub_refl _⟩
      rcases Nat.lt_or_ge j k with hj' | hj'
      · exact hall j hj'
      · have : j = k := by omega
        subst this; exact hh
    · repeat (first|(apply w1;apply rfl;apply rfl)|apply w4|apply w5|apply w6|(apply w8;apply rfl))
      refine aw_prot [b] (allc (.inl (put_same _ _ _)) (allc0 _)) ?_
      have hro := prot_get (bs := [b]) (List.mem_singleton.2 rfl) (.inl (put_same H b (.cells (encNode n))))
      have htb : t ∉ [b] := by simpa using hne
      refine aw_plan mixed (.take 0 (.take 1 (.take 2 (.take 4 (.take 5 (.one 3 (.take 6 (.one 7 .done)))))))) (by kernel_rfl) ?_
      repeat ((apply d1;apply rfl;apply rfl;apply rfl;apply rfl))
      refine d_roa rfl rfl rfl rfl hro rfl (Nat.le_refl _) rfl ?_
      repeat ((apply d1;apply rfl;apply rfl;apply rfl;apply rfl))
      refine d4 rfl ?_
      refine s_call rfl rfl fk37 ?_
      refine own_c hn ?_
      refine w4 ?_
      skip
      refine d_indexa rfl rfl rfl rfl rfl rfl rfl (by omega) (by omega) ?_
      skip
      refine d4 rfl ?_
      have hkl : k < T.nodes.length := by have := hw.1; omega
      refine s_storea tk rfl rfl (by rw [prot_other htb, put_ne hne]; exact hT) rfl rfl (by rw [encTab_len _ hw.1]; omega) rfl (encTab_put T k n hkl) ?_
      refine w4 ?_
      refine d3 ?_
      refine prot_done_put htb ?_
      repeat (first|(apply w1;apply rfl;apply rfl)|apply w5|apply w6|apply w7)
      refine s_add rfl rfl rfl (by omega) ?_
      repeat (first|(apply w1;apply rfl;apply rfl)|apply w4|apply w5|apply wd|apply we|apply wj)
      exact rt2 rfl rfl rfl (.refl _) (AHeap.put_sub (sub_new hb (AHeap.sub_refl _)) _ _) (h1 k g c' hall hh)
  · have hkr : (k : Int) = T.room := by have : ¬ (k : Int) < T.room := by simpa using c
                                        omega
    repeat (first|(apply w1;apply rfl;apply rfl)|apply w4|apply w5|apply w6|apply w7|apply wd|apply wc|apply wf|apply wh)
    exact rt2 rfl rfl rfl (.refl _) (sub_new hb (AHeap.sub_refl _)) (h2 g (fun j hj => hall j (by omega)))

/-- All nodes, one by one: what is told to a closure. -/
theorem each_c {t : Nat} {T : Tab} (hw : T.wf) {f : FuncId} {fs cs : List AVal} (hf : fnOk Try.prog f = true) (Hk : Nat → AHeap) (hT : ∀ k, Rd (Hk k) t (encTab T)) {K : AVal → AHeap → Prop}
    (step : ∀ k : Nat, (k : Int) < T.room → T.has (k + 1) = true → ∀ K : AVal → AHeap → Prop, (∀ r, K r (Hk (k + 1))) → ACalls Try.prog f (fs ++ [.i (k + 1), .ptr t (1 + k * 7)] ++ cs) (Hk k) K)
    (skip : ∀ k : Nat, T.has (k + 1) = false → (Hk (k + 1)).sub (Hk k)) (hK : K (.tup []) (Hk T.room.toNat)) : ACalls Try.prog 68 [.ptr t 0, .clo f fs cs] (Hk 0) K := by
  refine acalls_body Try.func68 rfl rfl rfl ?_
  have hrm := hw.2.1
  repeat (first|(apply w1;apply rfl;apply rfl)|apply w6|apply w7)
  refine s_call rfl rfl fk18 ?_
  refine room_c (T := T) (hT 0) ?_
  repeat (first|(apply w1;apply rfl;apply rfl)|apply w4|apply w5|apply wb)
  refine aw_loop (fun k : Nat => (k : Int) ≤ T.room) (fun k => [(0, .ptr t 0), (1, .clo f fs cs), (7, .i T.room), (8, .i k)]) Hk (fun k => T.room.toNat - k) 0 (by omega) (Fr.sub_cons rfl (Fr.sub_cons rfl (Fr.sub_cons rfl (Fr.sub_cons rfl (Fr.sub_nil _))))) (AHeap.sub_refl _) ?_
  intro k hk
  repeat (first|(apply w1;apply rfl;apply rfl)|apply w4|apply w5|apply w6|apply w7)
  refine aw_cond rfl (fun c => ?_) (fun c => ?_)
  · have c' : (k : Int) < T.room := by simpa using c
    repeat (first|(apply w1;apply rfl;apply rfl)|apply w4|apply w5|apply w6|apply w7|apply wa|apply wb)
    refine s_add rfl rfl rfl (by omega) ?_
    skip
    refine s_call rfl rfl fk45 ?_
    refine at_c hw (hT k) (fun hh => ?_) (fun hh => ?_)
    · repeat (first|(apply w1;apply rfl;apply rfl)|apply w4|apply w5|apply w6|apply w7|(apply w8;apply rfl))
      refine s_add rfl rfl rfl (by omega) ?_
      repeat ((apply w1;apply rfl;apply rfl))
      refine s_clo rfl rfl rfl hf ?_
      rw [show ((k : Int) + 1 - 1).toNat = k by omega]
      refine step k c' hh _ (fun r => ?_)
      repeat (first|apply w4|apply w5|apply w7|apply wg)
      refine s_add rfl rfl rfl (by omega) ?_
      repeat (first|(apply w1;apply rfl;apply rfl)|apply w4|apply w5)
      exact ⟨k + 1, by omega, by omega, Fr.sub_cons rfl (Fr.sub_cons rfl (Fr.sub_cons rfl (Fr.sub_cons rfl (Fr.sub_nil _)))), AHeap.sub_refl _⟩
    · repeat (first|(apply w1;apply rfl;apply rfl)|apply w4|apply w5|apply w6|apply w7|(apply w9;apply rfl)|apply wa|apply wg)
      refine s_add rfl rfl rfl (by omega) ?_
      repeat (first|(apply w1;apply rfl;apply rfl)|apply w4|apply w5)
      exact ⟨k + 1, by omega, by omega, Fr.sub_cons rfl (Fr.sub_cons rfl (Fr.sub_cons rfl (Fr.sub_cons rfl (Fr.sub_nil _)))), skip k hh⟩
  · have hkr : T.room.toNat = k := by have : ¬ (k : Int) < T.room := by simpa using c
                                      omega
    repeat (first|apply wc|apply wf|apply wh)
    refine rt0n rfl (AHeap.sub_refl _) ?_
    rw [← hkr]; exact hK
end Abs
end Go.Proofs.Ytpifnlodilcgkaa

set_option linter.unusedVariables false
namespace Go.Proofs.Ytpifnlodilcgkaa
namespace Abs
set_option maxRecDepth 10000
attribute [local irreducible] AOps AW AP ACalls thenQ inBlk noGoto

theorem put_comm {H : AHeap} {b c : Nat} {o p : HObj} (h : b ≠ c) : (H.put c o).put b p = (H.put b p).put c o := by
  funext x
  simp only [AHeap.put]
  by_cases h1 : x = b
  · subst h1; simp [h]
  · by_cases h2 : x = c
    · subst h2; simp [h1]
    · simp [h1, h2]
def Tab.cnt (T : Tab) : Nat → Int
  | 0 => 0
  | k + 1 => T.cnt k + if T.has (k + 1) then 1 else 0
def Tab.used (T : Tab) : Int := T.cnt T.room.toNat
theorem cnt_le (T : Tab) : ∀ k : Nat, 0 ≤ T.cnt k ∧ T.cnt k ≤ k
  | 0 => ⟨by simp [Tab.cnt], by simp [Tab.cnt]⟩
  | k + 1 => by
    have := cnt_le T k
    simp only [Tab.cnt]
    split <;> omega

theorem used1_c {d p : AVal} {b : Nat} {n : Int} {H : AHeap} (hb : H b = some (.cells [.i n])) (hn : 0 ≤ n ∧ n ≤ 1000000) {K : AVal → AHeap → Prop} (hK : ∀ r, K r (H.put b (.cells [.i (n + 1)]))) : ACalls Try.prog 72 [d, p, .ptr b 0] H K := by
  refine acalls_body Try.func72 rfl rfl rfl ?_
  repeat (first|(apply w1;apply rfl;apply rfl)|(apply w2;apply rfl)|(apply w3;apply rfl;apply rfl)|apply w4|apply w5|apply w6|apply w7|(apply w8;apply rfl)|(apply w9;apply rfl)|apply wa|apply wd|apply we|apply wb|apply wc|apply wf|apply wg|apply wh|(apply wi;apply rfl)|apply wj|apply wk|apply wl|apply wm|apply wn)
  refine s_load tk rfl rfl (.inl hb) rfl rfl ?_
  repeat (first|(apply w1;apply rfl;apply rfl)|(apply w2;apply rfl)|(apply w3;apply rfl;apply rfl)|apply w4|apply w5|apply w6|apply w7|(apply w8;apply rfl)|(apply w9;apply rfl)|apply wa|apply wd|apply we|apply wb|apply wc|apply wf|apply wg|apply wh|(apply wi;apply rfl)|apply wj|apply wk|apply wl|apply wm|apply wn)
  refine s_add rfl rfl rfl (by omega) ?_
  repeat (first|(apply w1;apply rfl;apply rfl)|(apply w2;apply rfl)|(apply w3;apply rfl;apply rfl)|apply w4|apply w5|apply w6|apply w7|(apply w8;apply rfl)|(apply w9;apply rfl)|apply wa|apply wd|apply we|apply wb|apply wc|apply wf|apply wg|apply wh|(apply wi;apply rfl)|apply wj|apply wk|apply wl|apply wm|apply wn)
  refine s_store tk rfl rfl hb rfl (ltb rfl) rfl ?_
  repeat (first|(apply w1;apply rfl;apply rfl)|(apply w2;apply rfl)|(apply w3;apply rfl;apply rfl)|apply w4|apply w5|apply w6|apply w7|(apply w8;apply rfl)|(apply w9;apply rfl)|apply wa|apply wd|apply we|apply wb|apply wc|apply wf|apply wg|apply wh|(apply wi;apply rfl)|apply wj|apply wk|apply wl|apply wm|apply wn)
  exact rt0n rfl (AHeap.sub_refl _) (hK _)
theorem used_c {t : Nat} {T : Tab} (hw : T.wf) {H : AHeap} (hT : Rd H t (encTab T)) {K : AVal → AHeap → Prop} (hK : K (.i T.used) H) : ACalls Try.prog 36 [.ptr t 0] H K := by
  refine acalls_body Try.func36 rfl rfl rfl ?_
  repeat (first|(apply w1;apply rfl;apply rfl)|(apply w2;apply rfl)|(apply w3;apply rfl;apply rfl)|apply w4|apply w5|apply w6|apply w7|(apply w8;apply rfl)|(apply w9;apply rfl)|apply wa|apply wd|apply we|apply wb|apply wc|apply wf|apply wg|apply wh|(apply wi;apply rfl)|apply wj|apply wk|apply wl|apply wm|apply wn)
  refine s_alloc tk rfl rfl rfl (fun b hb => ?_)
  have hne : t ≠ b := by rcases hT with h | h <;> exact ne_of_get hb h
  repeat (first|(apply w1;apply rfl;apply rfl)|(apply w2;apply rfl)|(apply w3;apply rfl;apply rfl)|apply w4|apply w5|apply w6|apply w7|(apply w8;apply rfl)|(apply w9;apply rfl)|apply wa|apply wd|apply we|apply wb|apply wc|apply wf|apply wg|apply wh|(apply wi;apply rfl)|apply wj|apply wk|apply wl|apply wm|apply wn)
  refine s_store tk rfl rfl (put_same _ _ _) rfl (ltb rfl) rfl ?_
  rw [put_put]
  repeat (first|(apply w1;apply rfl;apply rfl)|(apply w2;apply rfl)|(apply w3;apply rfl;apply rfl)|apply w4|apply w5|apply w6|apply w7|(apply w8;apply rfl)|(apply w9;apply rfl)|apply wa|apply wd|apply we|apply wb|apply wc|apply wf|apply wg|apply wh|(apply wi;apply rfl)|apply wj|apply wk|apply wl|apply wm|apply wn)
  refine s_call rfl rfl fk68 ?_
  refine each_c hw fk72 (fun k => H.put b (.cells [.i (T.cnt k)])) (fun k => by unfold Rd; rw [put_ne hne]; exact hT) (fun k hk hh K hK => ?_) (fun k hh => ?_) ?_
  · refine used1_c (put_same _ _ _) (by have := cnt_le T k; have := hw.2.1; omega) (fun r => ?_)
    rw [put_put]
    have e : T.cnt (k + 1) = T.cnt k + 1 := by simp only [Tab.cnt, hh, if_true]
    rw [← e]; exact hK r
  · have e : T.cnt (k + 1) = T.cnt k := by simp [Tab.cnt, hh]
    rw [e]; exact AHeap.sub_refl _
  · repeat (first|(apply w1;apply rfl;apply rfl)|(apply w2;apply rfl)|(apply w3;apply rfl;apply rfl)|apply w4|apply w5|apply w6|apply w7|(apply w8;apply rfl)|(apply w9;apply rfl)|apply wa|apply wd|apply we|apply wb|apply wc|apply wf|apply wg|apply wh|(apply wi;apply rfl)|apply wj|apply wk|apply wl|apply wm|apply wn)
    refine s_load tk rfl rfl (.inl (put_same _ _ _)) rfl rfl ?_
    repeat (first|(apply w1;apply rfl;apply rfl)|(apply w2;apply rfl)|(apply w3;apply rfl;apply rfl)|apply w4|apply w5|apply w6|apply w7|(apply w8;apply rfl)|(apply w9;apply rfl)|apply wa|apply wd|apply we|apply wb|apply wc|apply wf|apply wg|apply wh|(apply wi;apply rfl)|apply wj|apply wk|apply wl|apply wm|apply wn)
    exact rt1 rfl rfl (.refl _) (sub_new hb (AHeap.sub_refl _)) hK
end Abs
end Go.Proofs.Ytpifnlodilcgkaa

set_option linter.unusedVariables false
namespace Go.Proofs.Ytpifnlodilcgkaa
namespace Abs
set_option maxRecDepth 10000
attribute [local irreducible] AOps AW AP ACalls thenQ inBlk noGoto

/-! ### entries, by their directories -/
/-- What one directory tells: its number, for each of its entries that has node i. -/
def Tab.tellsOf (T : Tab) (i : Int) (k : Nat) : List Int := ((T.get (k + 1)).ents.filter fun e => decide (e.node = i)).map fun _ => (k : Int) + 1
def Tab.tells (T : Tab) (i : Int) : Nat → List Int
  | 0 => []
  | k + 1 => T.tells i k ++ if T.has (k + 1) then T.tellsOf i k else []
def Tab.links (T : Tab) (i : Int) : Int := (T.tells i T.room.toNat).length
def Tab.parent (T : Tab) (i : Int) : Int := (T.tells i T.room.toNat).headD 0
def tellsIn (i d : Int) (l : List Ent) : List Int := (l.filter fun e => decide (e.node = i)).map fun _ => d
theorem tellsIn_len (i d : Int) (l : List Ent) : (tellsIn i d l).length ≤ l.length := by
  simp only [tellsIn, List.length_map]; exact List.length_filter_le _ _
theorem tellsIn_ne (i d : Int) (hd : d ≠ 0) (l : List Ent) : ∀ x ∈ tellsIn i d l, x ≠ 0 := fun x hx => by
  obtain ⟨_, _, rfl⟩ := List.mem_map.1 hx; exact hd
theorem tells_ne (T : Tab) (i : Int) : ∀ k : Nat, ∀ x ∈ T.tells i k, x ≠ 0
  | 0, x, h => by cases h
  | k + 1, x, h => by
    simp only [Tab.tells] at h
    rcases List.mem_append.1 h with h | h
    · exact tells_ne T i k x h
    · split at h
      · exact tellsIn_ne i ((k : Int) + 1) (by omega) _ x h
      · cases h
theorem tells_len {T : Tab} (hw : T.wf) (i : Int) : ∀ k : Nat, (T.tells i k).length ≤ k * 1073741824
  | 0 => by simp [Tab.tells]
  | k + 1 => by
    have ih := tells_len hw i k
    simp only [Tab.tells]
    split
    · rw [List.length_append]
      have := tellsIn_len i ((k : Int) + 1) (T.get (k + 1)).ents
      have h2 := (get_small hw (k + 1)).2
      have h3 : (T.tellsOf i k).length = (tellsIn i ((k : Int) + 1) (T.get (k + 1)).ents).length := rfl
      rw [h3]
      omega
    · refine Nat.le_trans ?_ (Nat.mul_le_mul_right _ (Nat.le_succ k))
      rw [List.append_nil]
      exact ih

/-- One directory's entries are told to a closure, which keeps what it hears in one block of its own. -/
theorem ents1_c {t : Nat} {T : Tab} (hw : T.wf) {b b4 b5 : Nat} {f : FuncId} (hf : fnOk Try.prog f = true) {i : Int} (C : List Int → List AVal) {k : Nat} (hh : T.has (k + 1) = true) {l : List Int} {H : AHeap}
    (hT : Rd H t (encTab T)) (hb : H b = some (.cells (C l))) (h4 : Rd H b4 [.i i]) (h5 : Rd H b5 [.clo f [] [.ptr b 0]]) (n4 : b4 ≠ b) (n5 : b5 ≠ b) (nt : t ≠ b)
    (step : ∀ (l : List Int) (H : AHeap) (K : AVal → AHeap → Prop), l.length ≤ 1000000000000 → (∀ x ∈ l, x ≠ 0) → H b = some (.cells (C l)) → (∀ r, K r (H.put b (.cells (C (l ++ [(k : Int) + 1]))))) → ACalls Try.prog f [.i (k + 1), .ptr b 0] H K)
    (hlen : l.length ≤ 100000000000) (hz : ∀ x ∈ l, x ≠ 0) {K : AVal → AHeap → Prop} (hK : ∀ r, K r (H.put b (.cells (C (l ++ T.tellsOf i k))))) :
    ACalls Try.prog 100 [.i (k + 1), .ptr t (1 + k * 7), .ptr b4 0, .ptr b5 0] H K := by
  refine acalls_body Try.func100 rfl rfl rfl ?_
  have hlt := (has_lt hw hh).2.2
  have hkl : k < T.nodes.length := by simpa using hlt
  have hsm := (get_small hw (k + 1)).2
  have hcell : (encTab T)[1 + k * 7 + 5]? = some (.sl ((T.get (k + 1)).ents.map encEnt) .no) := by
    rw [encTab_get T k 5 (by omega), List.getElem?_eq_getElem hkl]
    simp [Tab.get, List.getD_eq_getElem?_getD, List.getElem?_eq_getElem hkl, encNode]
  generalize hes : (T.get (k + 1)).ents = es at hcell hsm
  have hfin : T.tellsOf i k = tellsIn i ((k : Int) + 1) es := by simp only [Tab.tellsOf, tellsIn, hes]
  repeat (first|(apply w1;apply rfl;apply rfl)|apply w6|apply w7)
  refine s_load tk rfl rfl hT rfl hcell ?_
  repeat (first|(apply w1;apply rfl;apply rfl)|apply w4|apply w5|apply wb)
  have hl0 : H.sub (H.put b (.cells (C l))) := by
    have : H.put b (.cells (C l)) = H := by
      funext x
      simp only [AHeap.put]
      split
      · rename_i e; rw [e, hb]
      · rfl
    rw [this]; exact AHeap.sub_refl _
  refine aw_loop (fun j : Nat => j ≤ es.length) (fun j => [(0, .i ((k : Int) + 1)), (2, .ptr b4 0), (3, .ptr b5 0), (11, .sl (es.map encEnt) .no), (12, .i (es.map encEnt).length), (13, .i j)])
    (fun j => H.put b (.cells (C (l ++ tellsIn i ((k : Int) + 1) (es.take j))))) (fun j => es.length - j) 0 (Nat.zero_le _) (Fr.sub_cons rfl (Fr.sub_cons rfl (Fr.sub_cons rfl (Fr.sub_cons rfl (Fr.sub_cons rfl (Fr.sub_cons rfl (Fr.sub_nil _)))))))
    (by
      have e0 : l ++ tellsIn i ((k : Int) + 1) (es.take 0) = l := by simp [tellsIn]
      rw [e0]
      have : H.put b (.cells (C l)) = H := by
        funext x
        simp only [AHeap.put]
        split
        · rename_i e; rw [e, hb]
        · rfl
      rw [this]; exact AHeap.sub_refl _) ?_
  intro j hj
  have hR4 : ∀ o, Rd (H.put b o) b4 [.i i] := fun o => by unfold Rd; rw [put_ne n4]; exact h4
  have hR5 : ∀ o, Rd (H.put b o) b5 [.clo f [] [.ptr b 0]] := fun o => by unfold Rd; rw [put_ne n5]; exact h5
  repeat (first|(apply w1;apply rfl;apply rfl)|apply w4|apply w5|apply w6|apply w7)
  refine aw_cond rfl (fun c => ?_) (fun c => ?_)
  · have c' : j < es.length := by simpa using c
    have htk : es.take (j + 1) = es.take j ++ [es[j]] := by rw [List.take_add_one, List.getElem?_eq_getElem c']; rfl
    have hst : tellsIn i ((k : Int) + 1) (es.take (j + 1)) = tellsIn i ((k : Int) + 1) (es.take j) ++ if es[j].node = i then [(k : Int) + 1] else [] := by
      rw [htk]
      simp only [tellsIn, List.filter_append, List.map_append]
      congr 1
      by_cases h : es[j].node = i <;> simp [h]
    have hll : (tellsIn i ((k : Int) + 1) (es.take j)).length ≤ es.length := Nat.le_trans (tellsIn_len _ _ _) (by rw [List.length_take]; omega)
    repeat (first|apply w5|apply w6|apply w7|apply wa|apply wb)
    refine s_index tk rfl rfl rfl rfl (by omega) (show (es.map encEnt)[(j : Int).toNat]? = some (encEnt es[j]) by simp [c']) rfl ?_
    skip
    refine s_epta (ds := encEnt es[j]) tk rfl rfl rfl (Nat.le_refl 2) rfl ?_
    skip
    refine s_alloc tk rfl rfl rfl (fun b7 h7 => ?_)
    obtain ⟨n7, h7'⟩ := put_none h7
    skip
    refine s_storew tk rfl rfl (put_same _ _ _) rfl rfl rfl rfl ?_
    rw [put_put]
    have n47 : b4 ≠ b7 := fun e => by rcases h4 with h | h <;> (rw [e, h7'] at h; cases h)
    have n57 : b5 ≠ b7 := fun e => by rcases h5 with h | h <;> (rw [e, h7'] at h; cases h)
    repeat (first|(apply w1;apply rfl;apply rfl)|apply w4|apply w5|apply w6|apply w7)
    refine s_load tk rfl rfl (.inl (put_same _ _ _)) rfl rfl ?_
    skip
    refine s_load tk rfl rfl (by unfold Rd; rw [put_ne n47]; exact hR4 _) rfl rfl ?_
    repeat (first|(apply w1;apply rfl;apply rfl)|apply w4|apply w5)
    refine aw_cond rfl (fun g => ?_) (fun g => ?_)
    · have g' : es[j].node = i := by simpa using g
      repeat (apply w7)
      refine s_load tk rfl rfl (by unfold Rd; rw [put_ne n57]; exact hR5 _) rfl rfl ?_
      repeat ((apply w1;apply rfl;apply rfl))
      refine s_clo rfl rfl rfl hf ?_
      refine step (l ++ tellsIn i ((k : Int) + 1) (es.take j)) _ _ (by rw [List.length_append]; omega) (fun x hx => by
        rcases List.mem_append.1 hx with hx | hx
        · exact hz x hx
        · exact tellsIn_ne _ _ (by omega) _ x hx) (by rw [put_ne (Ne.symm n7), put_same]) (fun r => ?_)
      repeat (first|apply w4|apply w5|apply w7|apply wg)
      refine s_add rfl rfl rfl (by omega) ?_
      repeat (first|(apply w1;apply rfl;apply rfl)|apply w4|apply w5)
      refine ⟨j + 1, by omega, by omega, Fr.sub_cons rfl (Fr.sub_cons rfl (Fr.sub_cons rfl (Fr.sub_cons rfl (Fr.sub_cons rfl (Fr.sub_cons rfl (Fr.sub_nil _)))))), ?_⟩
      rw [hst, if_pos g', ← List.append_assoc, put_comm (Ne.symm n7), put_put]
      exact sub_new (by rw [put_ne n7]; exact h7') (AHeap.sub_refl _)
    · have g' : ¬ es[j].node = i := by simpa using g
      repeat (first|apply w5|apply w7|apply wa|apply wg)
      refine s_add rfl rfl rfl (by omega) ?_
      repeat (first|(apply w1;apply rfl;apply rfl)|apply w4|apply w5)
      refine ⟨j + 1, by omega, by omega, Fr.sub_cons rfl (Fr.sub_cons rfl (Fr.sub_cons rfl (Fr.sub_cons rfl (Fr.sub_cons rfl (Fr.sub_cons rfl (Fr.sub_nil _)))))), ?_⟩
      rw [hst, if_neg g', List.append_nil]
      exact sub_new h7 (AHeap.sub_refl _)
  · have hje : j = es.length := by have : ¬ j < es.length := by simpa using c
                                   omega
    subst hje
    repeat (first|apply wc|apply wf|apply wh)
    refine rt0n rfl (AHeap.sub_refl _) ?_
    rw [List.take_length, ← hfin]
    exact hK _
end Abs
end Go.Proofs.Ytpifnlodilcgkaa

set_option linter.unusedVariables false
namespace Go.Proofs.Ytpifnlodilcgkaa
namespace Abs
set_option maxRecDepth 10000
attribute [local irreducible] AOps AW AP ACalls thenQ inBlk noGoto

def Tab.nd (T : Tab) (k : Nat) : Node := if T.has (k + 1) then T.get (k + 1) else Node.zero
theorem nd_small {T : Tab} (hw : T.wf) (k : Nat) : (T.nd k).small := by
  unfold Tab.nd
  split
  · exact get_small hw _
  · exact Node.zero_small
theorem put_id {H : AHeap} {b : Nat} {o : HObj} (h : H b = some o) : H.put b o = H := by
  funext x
  simp only [AHeap.put]
  split
  · rename_i e; rw [e, h]
  · rfl
/-- All entries that have a node are told to a closure. -/
theorem ents_c {t : Nat} {T : Tab} (hw : T.wf) {b : Nat} {f : FuncId} (hf : fnOk Try.prog f = true) {i : Int} (C : List Int → List AVal) {H : AHeap} (hT : Rd H t (encTab T)) (nt : t ≠ b) (hb : H b = some (.cells (C [])))
    (step : ∀ (d : Int) (l : List Int) (H : AHeap) (K : AVal → AHeap → Prop), d ≠ 0 → l.length ≤ 1000000000000 → (∀ x ∈ l, x ≠ 0) → H b = some (.cells (C l)) → (∀ r, K r (H.put b (.cells (C (l ++ [d]))))) → ACalls Try.prog f [.i d, .ptr b 0] H K)
    {K : AVal → AHeap → Prop} (hK : K (.tup []) (H.put b (.cells (C (T.tells i T.room.toNat))))) :
    ACalls Try.prog 66 [.ptr t 0, .i i, .clo f [] [.ptr b 0]] H K := by
  refine acalls_body Try.func66 rfl rfl rfl ?_
  repeat (first|apply w6|apply w7)
  refine s_box rfl rfl rfl (fun b4 h4 => ?_)
  skip
  refine s_box rfl rfl rfl (fun b5 h5 => ?_)
  obtain ⟨n54, h5'⟩ := put_none h5
  have n4b : b4 ≠ b := (ne_of_get h4 hb).symm
  have n5b : b5 ≠ b := (ne_of_get h5' hb).symm
  have n4t : t ≠ b4 := by rcases hT with h | h <;> exact ne_of_get h4 h
  have n5t : t ≠ b5 := by rcases hT with h | h <;> exact ne_of_get h5' h
  have hstart : ((H.put b4 (.cells [.i i])).put b5 (.cells [.clo f [] [.ptr b 0]])) = ((H.put b4 (.cells [.i i])).put b5 (.cells [.clo f [] [.ptr b 0]])).put b (.cells (C [])) :=
    (put_id (by rw [put_ne (Ne.symm n5b), put_ne (Ne.symm n4b)]; exact hb)).symm
  rw [hstart]
  generalize hX : ((H.put b4 (.cells [.i i])).put b5 (.cells [.clo f [] [.ptr b 0]])) = X
  have x4 : X b4 = some (.cells [.i i]) := by rw [← hX, put_ne (Ne.symm n54), put_same]
  have x5 : X b5 = some (.cells [.clo f [] [.ptr b 0]]) := by rw [← hX, put_same]
  have xt : Rd X t (encTab T) := by unfold Rd; rw [← hX, put_ne n5t, put_ne n4t]; exact hT
  have xs : ∀ o, (H.put b o).sub (X.put b o) := fun o => AHeap.put_sub (by rw [← hX]; exact sub_new h5' (sub_new h4 (AHeap.sub_refl _))) b o
  repeat (first|(apply w1;apply rfl;apply rfl)|apply w4|apply w5|apply w7)
  refine s_call rfl rfl fk68 ?_
  refine each_c hw fk100 (fun k => X.put b (.cells (C (T.tells i k)))) (fun k => by unfold Rd; rw [put_ne nt]; exact xt) (fun k hk hh K hK => ?_) (fun k hh => ?_) ?_
  · refine ents1_c hw hf C hh (l := T.tells i k) (by unfold Rd; rw [put_ne nt]; exact xt) (put_same _ _ _) (.inl (by rw [put_ne n4b]; exact x4)) (.inl (by rw [put_ne n5b]; exact x5)) n4b n5b nt (fun l H K => step _ l H K (by omega)) ?_ (tells_ne T i k) (fun r => ?_)
    · have := tells_len hw i k
      have := hw.2.1
      omega
    · rw [put_put]
      have e : T.tells i (k + 1) = T.tells i k ++ T.tellsOf i k := by simp only [Tab.tells, hh, if_true]
      rw [← e]; exact hK r
  · have e : T.tells i (k + 1) = T.tells i k := by simp [Tab.tells, hh]
    rw [e]; exact AHeap.sub_refl _
  · repeat (apply w4)
    exact rt0n rfl (xs _) hK
theorem links1_c {d : Int} {l : List Int} {b : Nat} {H : AHeap} (hl : l.length ≤ 1000000000000) (hb : H b = some (.cells [.i l.length])) {K : AVal → AHeap → Prop} (hK : ∀ r, K r (H.put b (.cells [.i (l ++ [d]).length]))) :
    ACalls Try.prog 67 [.i d, .ptr b 0] H K := by
  refine acalls_body Try.func67 rfl rfl rfl ?_
  repeat (first|(apply w1;apply rfl;apply rfl)|(apply w2;apply rfl)|(apply w3;apply rfl;apply rfl)|apply w4|apply w5|apply w6|apply w7|(apply w8;apply rfl)|(apply w9;apply rfl)|apply wa|apply wd|apply we|apply wb|apply wc|apply wf|apply wg|apply wh|(apply wi;apply rfl)|apply wj|apply wk|apply wl|apply wm|apply wn)
  refine s_load tk rfl rfl (.inl hb) rfl rfl ?_
  repeat (first|(apply w1;apply rfl;apply rfl)|(apply w2;apply rfl)|(apply w3;apply rfl;apply rfl)|apply w4|apply w5|apply w6|apply w7|(apply w8;apply rfl)|(apply w9;apply rfl)|apply wa|apply wd|apply we|apply wb|apply wc|apply wf|apply wg|apply wh|(apply wi;apply rfl)|apply wj|apply wk|apply wl|apply wm|apply wn)
  refine s_add rfl rfl rfl (by omega) ?_
  repeat (first|(apply w1;apply rfl;apply rfl)|(apply w2;apply rfl)|(apply w3;apply rfl;apply rfl)|apply w4|apply w5|apply w6|apply w7|(apply w8;apply rfl)|(apply w9;apply rfl)|apply wa|apply wd|apply we|apply wb|apply wc|apply wf|apply wg|apply wh|(apply wi;apply rfl)|apply wj|apply wk|apply wl|apply wm|apply wn)
  refine s_store tk rfl rfl hb rfl (ltb rfl) rfl ?_
  repeat (first|(apply w1;apply rfl;apply rfl)|(apply w2;apply rfl)|(apply w3;apply rfl;apply rfl)|apply w4|apply w5|apply w6|apply w7|(apply w8;apply rfl)|(apply w9;apply rfl)|apply wa|apply wd|apply we|apply wb|apply wc|apply wf|apply wg|apply wh|(apply wi;apply rfl)|apply wj|apply wk|apply wl|apply wm|apply wn)
  have e : (((l ++ [d]).length : Nat) : Int) = (l.length : Int) + 1 := by simp
  rw [e] at hK
  exact rt0n rfl (AHeap.sub_refl _) (hK _)
theorem links_c {t : Nat} {T : Tab} (hw : T.wf) {i : Int} {H : AHeap} (hT : Rd H t (encTab T)) {K : AVal → AHeap → Prop} (hK : K (.i (T.links i)) H) : ACalls Try.prog 34 [.ptr t 0, .i i] H K := by
  refine acalls_body Try.func34 rfl rfl rfl ?_
  repeat (first|(apply w1;apply rfl;apply rfl)|(apply w2;apply rfl)|(apply w3;apply rfl;apply rfl)|apply w4|apply w5|apply w6|apply w7|(apply w8;apply rfl)|(apply w9;apply rfl)|apply wa|apply wd|apply we|apply wb|apply wc|apply wf|apply wg|apply wh|(apply wi;apply rfl)|apply wj|apply wk|apply wl|apply wm|apply wn)
  refine s_alloc tk rfl rfl rfl (fun b hb => ?_)
  have hne : t ≠ b := by rcases hT with h | h <;> exact ne_of_get hb h
  repeat (first|(apply w1;apply rfl;apply rfl)|(apply w2;apply rfl)|(apply w3;apply rfl;apply rfl)|apply w4|apply w5|apply w6|apply w7|(apply w8;apply rfl)|(apply w9;apply rfl)|apply wa|apply wd|apply we|apply wb|apply wc|apply wf|apply wg|apply wh|(apply wi;apply rfl)|apply wj|apply wk|apply wl|apply wm|apply wn)
  refine s_store tk rfl rfl (put_same _ _ _) rfl (ltb rfl) rfl ?_
  rw [put_put]
  repeat (first|(apply w1;apply rfl;apply rfl)|(apply w2;apply rfl)|(apply w3;apply rfl;apply rfl)|apply w4|apply w5|apply w6|apply w7|(apply w8;apply rfl)|(apply w9;apply rfl)|apply wa|apply wd|apply we|apply wb|apply wc|apply wf|apply wg|apply wh|(apply wi;apply rfl)|apply wj|apply wk|apply wl|apply wm|apply wn)
  refine s_call rfl rfl fk66 ?_
  refine ents_c hw fk67 (fun l => [.i l.length]) (by unfold Rd; rw [put_ne hne]; exact hT) hne (put_same _ _ _) (fun d l H K _ hl _ hb hK => links1_c hl hb hK) ?_
  rw [put_put]
  repeat (first|(apply w1;apply rfl;apply rfl)|(apply w2;apply rfl)|(apply w3;apply rfl;apply rfl)|apply w4|apply w5|apply w6|apply w7|(apply w8;apply rfl)|(apply w9;apply rfl)|apply wa|apply wd|apply we|apply wb|apply wc|apply wf|apply wg|apply wh|(apply wi;apply rfl)|apply wj|apply wk|apply wl|apply wm|apply wn)
  refine s_load tk rfl rfl (.inl (put_same _ _ _)) rfl rfl ?_
  repeat (first|(apply w1;apply rfl;apply rfl)|(apply w2;apply rfl)|(apply w3;apply rfl;apply rfl)|apply w4|apply w5|apply w6|apply w7|(apply w8;apply rfl)|(apply w9;apply rfl)|apply wa|apply wd|apply we|apply wb|apply wc|apply wf|apply wg|apply wh|(apply wi;apply rfl)|apply wj|apply wk|apply wl|apply wm|apply wn)
  exact rt1 rfl rfl (.refl _) (sub_new hb (AHeap.sub_refl _)) hK
theorem parent1_c {d : Int} {l : List Int} {b : Nat} {H : AHeap} (hd : d ≠ 0) (hl : ∀ x ∈ l, x ≠ 0) (hb : H b = some (.cells [.i (l.headD 0)])) {K : AVal → AHeap → Prop} (hK : ∀ r, K r (H.put b (.cells [.i ((l ++ [d]).headD 0)]))) :
    ACalls Try.prog 105 [.i d, .ptr b 0] H K := by
  refine acalls_body Try.func105 rfl rfl rfl ?_
  repeat (first|apply w6|apply w7)
  refine s_load tk rfl rfl (.inl hb) rfl rfl ?_
  repeat (first|(apply w1;apply rfl;apply rfl)|apply w4|apply w5)
  refine aw_cond rfl (fun g => ?_) (fun g => ?_)
  · have g' : l.headD 0 = 0 := of_decide_eq_true g
    have e : l = [] := by
      cases l with
      | nil => rfl
      | cons x l => exact absurd g' (hl x List.mem_cons_self)
    subst e
    repeat (first|(apply w1;apply rfl;apply rfl)|apply w7)
    refine s_store tk rfl rfl hb rfl (ltb rfl) rfl ?_
    repeat (apply w4)
    exact rt0n rfl (AHeap.sub_refl _) (hK _)
  · have g' : ¬ l.headD 0 = 0 := of_decide_eq_false g
    have e : (l ++ [d]).headD 0 = l.headD 0 := by
      cases l with
      | nil => exact absurd rfl g'
      | cons x l => rfl
    rw [e, put_id hb] at hK
    repeat (apply wa)
    exact rt0n rfl (AHeap.sub_refl _) (hK _)
theorem parent_c {t : Nat} {T : Tab} (hw : T.wf) {i : Int} {H : AHeap} (hT : Rd H t (encTab T)) {K : AVal → AHeap → Prop} (hK : K (.i (T.parent i)) H) : ACalls Try.prog 78 [.ptr t 0, .i i] H K := by
  refine acalls_body Try.func78 rfl rfl rfl ?_
  repeat (first|(apply w1;apply rfl;apply rfl)|apply w4|apply w5|apply w6|apply w7)
  refine s_alloc tk rfl rfl rfl (fun b hb => ?_)
  have hne : t ≠ b := by rcases hT with h | h <;> exact ne_of_get hb h
  skip
  refine s_store tk rfl rfl (put_same _ _ _) rfl (ltb rfl) rfl ?_
  rw [put_put]
  repeat (first|(apply w1;apply rfl;apply rfl)|apply w4|apply w5|apply w6|apply w7)
  refine s_call rfl rfl fk66 ?_
  refine ents_c hw fk105 (fun l => [.i (l.headD 0)]) (by unfold Rd; rw [put_ne hne]; exact hT) hne (put_same _ _ _) (fun d l H K hd _ hl hb hK => parent1_c hd hl hb hK) ?_
  rw [put_put]
  repeat (first|apply w4|apply w5|apply w6|apply w7)
  refine s_load tk rfl rfl (.inl (put_same _ _ _)) rfl rfl ?_
  repeat (first|(apply w1;apply rfl;apply rfl)|apply w4|apply w5|apply wd)
  exact rt1 rfl rfl (.refl _) (sub_new hb (AHeap.sub_refl _)) hK
end Abs
end Go.Proofs.Ytpifnlodilcgkaa
