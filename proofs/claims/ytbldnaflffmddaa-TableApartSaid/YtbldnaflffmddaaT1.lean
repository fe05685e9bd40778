import Derived.Test.YtbldnaflffmddaaN1
set_option linter.unusedVariables false
namespace Go.Proofs.Ytbldnaflffmddaa
namespace Abs
set_option maxRecDepth 10000
attribute [local irreducible] AOps AW AP ACalls thenQ inBlk noGoto

/-! ### package table -/
theorem ltb {a b : Nat} (h : Nat.ble (a + 1) b = true) : a < b := Nat.le_of_ble_eq_true h
theorem flat_bytes (s : ByteArray) : flatA (encBytes s).flatten = true := by
  rw [encBytes, flatten_single]
  simp only [flatA, List.all_eq_true]
  intro x hx
  obtain ⟨c, _, rfl⟩ := List.mem_map.1 hx
  rfl
theorem flat_ents (l : List Ent) : flatA (l.map encEnt).flatten = true := by
  simp only [flatA, List.all_eq_true]
  intro x hx
  obtain ⟨y, hy, hxy⟩ := List.mem_flatten.1 hx
  obtain ⟨e, _, rfl⟩ := List.mem_map.1 hy
  simp only [encEnt, List.mem_cons, List.not_mem_nil, or_false] at hxy
  rcases hxy with rfl | rfl <;> rfl
theorem Uni.flat_set {es : Nat} : ∀ {xs : List (List AVal)}, Uni es xs → ∀ (k : Nat) (r : List AVal), k < xs.length → xs.flatten.take (k * es) ++ r ++ xs.flatten.drop (k * es + es) = (xs.set k r).flatten
  | [], _, k, r, h => absurd h (Nat.not_lt_zero _)
  | x :: xs, hu, 0, r, _ => by
    have hx : x.length = es := hu x (List.mem_cons_self)
    simp [← hx]
  | x :: xs, hu, k + 1, r, h => by
    have hx : x.length = es := hu x (List.mem_cons_self)
    have ih := Uni.flat_set (xs := xs) (fun y hy => hu y (List.mem_cons_of_mem _ hy)) k r (by simpa using h)
    have e : (k + 1) * es = x.length + k * es := by rw [Nat.succ_mul, hx]; omega
    rw [e, List.flatten_cons, List.take_length_add_append, Nat.add_assoc, List.drop_length_add_append, List.set_cons_succ, List.flatten_cons, ← ih]
    simp only [List.append_assoc]
def Tab.put (T : Tab) (k : Nat) (n : Node) : Tab := ⟨T.room, T.nodes.set k n⟩
theorem encTab_put (T : Tab) (k : Nat) (n : Node) (hk : k < T.nodes.length) : (encTab T).take (1 + k * 7) ++ encNode n ++ (encTab T).drop (1 + k * 7 + 7) = encTab (T.put k n) := by
  have := (uni_nodes T.nodes).flat_set k (encNode n) (by simpa using hk)
  rw [show 1 + k * 7 = (k * 7) + 1 by omega, show k * 7 + 1 + 7 = (k * 7 + 7) + 1 by omega, encTab, List.take_succ_cons, List.drop_succ_cons, encTab, Tab.put, List.map_set, ← this]
  rfl
def noTok : AVal → AVal
  | .sl xs _ => .sl xs .no
  | v => v
theorem wk_noTok (v : AVal) : Wk v (noTok v) := by
  cases v <;> first | exact .refl _ | exact .sl _ _
theorem wk_noToks (l : List AVal) : Wk (.agg l) (.agg (l.map noTok)) := .agg (by simp) (fun j h h' => by simp only [List.getElem_map]; exact wk_noTok _)
theorem wk_agg {l l' : List AVal} (h : l.map noTok = l') : Wk (.agg l) (.agg l') := h ▸ wk_noToks l
theorem flat_node (n : Node) : flatA (encNode n) = true := rfl

theorem own_c {n : Node} {H : AHeap} {K : AVal → AHeap → Prop} (hs : n.small) (hK : K (.agg (encNode n)) H) : ACalls Try.prog 50 [.agg (encNode n)] H K := by
  refine acalls_body Try.func50 rfl rfl rfl ?_
  repeat (first|apply w6|apply w7)
  refine s_box rfl rfl rfl (fun b1 h1 => ?_)
  skip
  refine s_alloc tk rfl rfl rfl (fun b2 h2 => ?_)
  obtain ⟨n21, h2'⟩ := put_none h2
  repeat (first|(apply w1;apply rfl;apply rfl)|apply w4|apply w5|apply w6|apply w7)
  refine s_load tk rfl rfl (.inl (by rw [put_ne (Ne.symm n21), put_same])) rfl rfl ?_
  skip
  refine s_call rfl rfl fk61 ?_
  refine clone_bytes (uni_bytes _) (flat_bytes _) (by rw [encBytes_len]; have := hs.1; omega) ?_
  repeat ((apply w1;apply rfl;apply rfl))
  refine s_store tk rfl rfl (by rw [put_ne (Ne.symm n21), put_same]) rfl (ltb rfl) rfl ?_
  repeat (first|(apply w1;apply rfl;apply rfl)|apply w4|apply w5|apply w6|apply w7)
  refine s_load tk rfl rfl (.inl (put_same _ _ _)) rfl rfl ?_
  skip
  refine s_call rfl rfl fk62 ?_
  refine clone_ents (uni_ents _) (flat_ents _) (by rw [ents_len]; have := hs.2; omega) ?_
  repeat ((apply w1;apply rfl;apply rfl))
  refine s_store tk rfl rfl (put_same _ _ _) rfl (ltb rfl) rfl ?_
  repeat (first|apply w4|apply w5|apply w6|apply w7)
  refine s_loadw tk rfl rfl (.inl (put_same _ _ _)) rfl rfl ?_
  skip
  refine s_storew tk rfl rfl (by rw [put_ne n21, put_ne n21, put_same]) rfl rfl rfl rfl ?_
  repeat (first|apply w4|apply w5|apply wd)
  refine rt1c rfl rfl (.inl (put_same _ _ _)) rfl rfl (.refl _) ?_ hK
  exact sub_new h2' (sub_new h1 (sub_new h1 (sub_new h2' (sub_new h1 (AHeap.sub_refl _)))))
theorem at_c {t : Nat} {T : Tab} (hw : T.wf) {i : Int} {H : AHeap} (hT : Rd H t (encTab T)) {K : AVal → AHeap → Prop}
    (h1 : T.has i = true → K (.ptr t (1 + (i - 1).toNat * 7)) H) (h0 : T.has i = false → K .nilp H) : ACalls Try.prog 52 [.ptr t 0, .i i] H K := by
  refine acalls_body Try.func52 rfl rfl rfl ?_
  repeat (first|(apply w1;apply rfl;apply rfl)|(apply w2;apply rfl)|apply w4|apply w5|apply w6|apply w7)
  refine s_gsplit rfl rfl (fun g1 => ?_) (fun g1 => ?_)
  · repeat (first|(apply w1;apply rfl;apply rfl)|(apply w3;apply rfl;apply rfl)|apply w4|apply w5|apply w6|apply w7|(apply w8;apply rfl)|apply wd|apply we)
    exact rt1 rfl rfl (.refl _) (AHeap.sub_refl _) (h0 (by simp [Tab.has] at g1 ⊢; omega))
  repeat (first|(apply w1;apply rfl;apply rfl)|(apply w2;apply rfl))
  refine s_load tk rfl rfl hT rfl rfl ?_
  repeat (first|(apply w1;apply rfl;apply rfl)|(apply w2;apply rfl))
  refine s_gsplit rfl rfl (fun g2 => ?_) (fun g2 => ?_)
  · repeat (first|(apply w1;apply rfl;apply rfl)|(apply w3;apply rfl;apply rfl)|apply w4|apply w5|apply w6|apply w7|(apply w8;apply rfl)|apply wd|apply we)
    exact rt1 rfl rfl (.refl _) (AHeap.sub_refl _) (h0 (by simp [Tab.has] at g2 ⊢; omega))
  repeat (first|(apply w1;apply rfl;apply rfl)|(apply w2;apply rfl))
  simp only [decide_eq_false_iff_not] at g1 g2
  obtain ⟨hl, ⟨hr1, hr2⟩, _⟩ := hw
  refine s_sub rfl rfl rfl (by omega) ?_
  repeat (first|(apply w1;apply rfl;apply rfl)|(apply w2;apply rfl))
  refine s_indexa tk rfl rfl rfl rfl rfl (by omega) (by omega) ?_
  repeat (first|(apply w1;apply rfl;apply rfl)|(apply w2;apply rfl))
  have hn : (i - 1).toNat < T.nodes.length := by omega
  refine s_load tk rfl rfl hT rfl ((encTab_get T (i - 1).toNat 0 (by omega)).trans (by rw [List.getElem?_eq_getElem hn]; rfl)) ?_
  repeat (first|(apply w1;apply rfl;apply rfl)|(apply w2;apply rfl)|apply w4|apply w5)
  have hk : T.has i = !decide ((T.nodes[(i - 1).toNat]).kind = 0) := by
    unfold Tab.has
    rw [List.getD_eq_getElem?_getD, List.getElem?_eq_getElem hn, decide_eq_true (show 1 ≤ i by omega), decide_eq_true (show i ≤ T.room by omega)]
    rfl
  refine aw_cond rfl (fun g3 => ?_) (fun g3 => ?_)
  · repeat (first|(apply w1;apply rfl;apply rfl)|apply w4|apply w5|apply w6|apply w7|apply wd|apply we)
    exact rt1 rfl rfl (.refl _) (AHeap.sub_refl _) (h0 (by rw [hk, g3]; rfl))
  · repeat (first|(apply w1;apply rfl;apply rfl)|apply w5|apply w6|apply w7|apply wa)
    refine s_sub rfl rfl rfl (by omega) ?_
    repeat ((apply w1;apply rfl;apply rfl))
    refine s_indexa tk rfl rfl rfl rfl rfl (by omega) (by omega) ?_
    repeat (first|(apply w1;apply rfl;apply rfl)|apply w4|apply w5|apply wd)
    exact rt1 rfl rfl (.refl _) (AHeap.sub_refl _) (h1 (by rw [hk, g3]; rfl))
end Abs
end Go.Proofs.Ytbldnaflffmddaa

set_option linter.unusedVariables false
namespace Go.Proofs.Ytbldnaflffmddaa
namespace Abs
set_option maxRecDepth 10000
attribute [local irreducible] AOps AW AP ACalls thenQ inBlk noGoto

def Tab.new (room : Int) : Tab := ⟨min (max room 1) 24, List.replicate 24 Node.zero⟩
theorem Node.zero_small : Node.zero.small := ⟨by decide, by decide⟩
theorem new_wf (room : Int) : (Tab.new room).wf := ⟨by simp [Tab.new], ⟨by simp only [Tab.new]; omega, by simp only [Tab.new]; omega⟩, fun n hn => by
  have := List.eq_of_mem_replicate hn
  subst this; exact Node.zero_small⟩
theorem put_wf {T : Tab} (h : T.wf) {n : Node} (hn : n.small) (k : Nat) : (T.put k n).wf := ⟨by simp [Tab.put, h.1], h.2.1, fun m hm => by
  rcases List.mem_or_eq_of_mem_set hm with hm | rfl
  · exact h.2.2 m hm
  · exact hn⟩
theorem get_small {T : Tab} (h : T.wf) (i : Int) : (T.get i).small := by
  unfold Tab.get
  rw [List.getD_eq_getElem?_getD]
  rcases Nat.lt_or_ge (i - 1).toNat T.nodes.length with hi | hi
  · rw [List.getElem?_eq_getElem hi]; exact h.2.2 _ (List.getElem_mem hi)
  · rw [List.getElem?_eq_none hi]; exact Node.zero_small
theorem has_lt {T : Tab} (h : T.wf) {i : Int} (hi : T.has i = true) : 1 ≤ i ∧ i ≤ T.room ∧ (i - 1).toNat < T.nodes.length := by
  unfold Tab.has at hi
  simp only [Bool.and_eq_true, decide_eq_true_eq] at hi
  have := h.1; have := h.2.1
  omega
theorem encTab_row {T : Tab} (h : T.wf) {i : Int} (hi : T.has i = true) : ((encTab T).drop (1 + (i - 1).toNat * 7)).take 7 = encNode (T.get i) := by
  have hl := (has_lt h hi).2.2
  rw [encTab_agg, Tab.get, List.getD_eq_getElem?_getD, List.getElem?_eq_getElem hl]
  rfl

theorem Wk.pre {l : List AVal} : ∀ (p : List AVal) {l' : List AVal}, Wk (.agg l) (.agg l') → Wk (.agg (p ++ l)) (.agg (p ++ l'))
  | [], _, h => h
  | a :: p, _, h => .cons (.refl _) (Wk.pre p h)
theorem Wk.post {q : List AVal} : ∀ {l l' : List AVal}, l.length = l'.length → Wk (.agg l) (.agg l') → Wk (.agg (l ++ q)) (.agg (l' ++ q))
  | l, l', hl, h => by
    cases h with
    | refl => exact .refl _
    | agg _ k =>
      refine .agg (by simp [hl]) (fun j h h' => ?_)
      rcases Nat.lt_or_ge j l.length with hj | hj
      · rw [List.getElem_append_left hj, List.getElem_append_left (hl ▸ hj)]; exact k j hj (hl ▸ hj)
      · rw [List.getElem_append_right hj, List.getElem_append_right (hl ▸ hj)]
        simp only [hl]; exact .refl _
theorem Wk.mid {p q l l' : List AVal} (hl : l.length = l'.length) (h : Wk (.agg l) (.agg l')) : Wk (.agg (p ++ l ++ q)) (.agg (p ++ l' ++ q)) := .post (by simp [hl]) (.pre p h)
theorem room_c {t : Nat} {T : Tab} {H : AHeap} (hT : Rd H t (encTab T)) {K : AVal → AHeap → Prop} (hK : K (.i T.room) H) : ACalls Try.prog 33 [.ptr t 0] H K := by
  refine acalls_body Try.func33 rfl rfl rfl ?_
  repeat (first|(apply w1;apply rfl;apply rfl)|apply w4|apply w5|apply w6|apply w7|(apply w9;apply rfl)|apply wa)
  refine s_load tk rfl rfl hT rfl rfl ?_
  repeat (first|(apply w1;apply rfl;apply rfl)|apply w4|apply w5|apply wd)
  exact rt1 rfl rfl (.refl _) (AHeap.sub_refl _) hK
theorem new_c {room : Int} {H : AHeap} {K : AVal → AHeap → Prop} (hK : ∀ t, H t = none → K (.ptr t 0) (H.put t (.cells (encTab (Tab.new room))))) : ACalls Try.prog 29 [.i room] H K := by
  refine acalls_body Try.func29 rfl rfl rfl ?_
  repeat (first|(apply w1;apply rfl;apply rfl)|apply w4|apply w5|apply w6|apply w7)
  refine s_build tk rfl rfl rfl rfl rfl rfl ?_
  skip
  refine s_box rfl rfl rfl (fun t ht => ?_)
  repeat (first|(apply w1;apply rfl;apply rfl)|apply w4|apply w5|apply wd)
  have hr : (if 24 < (if 1 > room then 1 else room) then 24 else if 1 > room then 1 else room) = min (max room 1) 24 := by
    split <;> split at * <;> omega
  have hK' := hK t ht
  rw [Tab.new, ← hr] at hK'
  exact rt1 rfl rfl (.refl _) (AHeap.put_sub_wk (AHeap.sub_refl _) t (.cells (wk_agg (l' := encTab ⟨if 24 < (if 1 > room then 1 else room) then 24 else if 1 > room then 1 else room, List.replicate 24 Node.zero⟩) rfl))) hK'
theorem get_c {t : Nat} {T : Tab} (hw : T.wf) {i : Int} {H : AHeap} (hT : Rd H t (encTab T)) {K : AVal → AHeap → Prop}
    (hK : K (.tup [.agg (encNode (if T.has i then T.get i else Node.zero)), .b (T.has i)]) H) : ACalls Try.prog 34 [.ptr t 0, .i i] H K := by
  refine acalls_body Try.func34 rfl rfl rfl ?_
  repeat (first|apply w6|apply w7)
  refine s_alloc tk rfl rfl rfl (fun b hb => ?_)
  have hne : t ≠ b := by rcases hT with h | h <;> exact ne_of_get hb h
  repeat (first|(apply w1;apply rfl;apply rfl)|apply w4|apply w5|apply w6|apply w7)
  refine s_call rfl rfl fk52 ?_
  refine at_c hw (by unfold Rd; rw [put_ne hne]; exact hT) (fun h1 => ?_) (fun h0 => ?_)
  · rw [h1, if_pos rfl] at hK
    repeat (first|(apply w1;apply rfl;apply rfl)|apply w4|apply w5|apply w6|apply w7|(apply w9;apply rfl)|apply wa)
    refine s_loada tk rfl rfl (by unfold Rd; rw [put_ne hne]; exact hT) rfl (by rw [encTab_len _ hw.1]; have := has_lt hw h1; have := hw.2.1; omega) (encTab_row hw h1) ?_
    skip
    refine s_call rfl rfl fk50 ?_
    refine own_c (get_small hw i) ?_
    skip
    refine s_storew tk rfl rfl (put_same _ _ _) rfl rfl rfl rfl ?_
    repeat (first|(apply w1;apply rfl;apply rfl)|apply w4|apply w5|apply wd)
    refine rt2c rfl rfl (.inl (put_same _ _ _)) rfl rfl rfl (.refl _) (sub_new hb (sub_new hb (AHeap.sub_refl _)) ) hK
  · rw [h0] at hK
    repeat (first|(apply w1;apply rfl;apply rfl)|apply w4|apply w5|apply w6|apply w7|(apply w8;apply rfl))
    refine s_build tk rfl rfl rfl rfl rfl rfl ?_
    skip
    refine s_storew tk rfl rfl (put_same _ _ _) rfl rfl rfl rfl ?_
    repeat (first|(apply w1;apply rfl;apply rfl)|apply w4|apply w5|apply wd|apply we)
    refine rt2c rfl rfl (.inl (put_same _ _ _)) rfl rfl rfl (.pair (wk_agg rfl) (.refl _)) (sub_new hb (sub_new hb (AHeap.sub_refl _)) ) hK
theorem has_off {T : Tab} (h : T.wf) {i : Int} (hi : T.has i = true) : 1 + (i - 1).toNat * 7 + 7 ≤ (encTab T).length := by
  rw [encTab_len _ h.1]; have := has_lt h hi; have := h.2.1; omega
theorem put_c {t : Nat} {T : Tab} (hw : T.wf) {i : Int} {n : Node} (hn : n.small) {H : AHeap} (hT : H t = some (.cells (encTab T))) {K : AVal → AHeap → Prop}
    (hK : if T.has i then (if nodeOk n then K (.i 0) (H.put t (.cells (encTab (T.put (i - 1).toNat n)))) else K (.i 22) H) else K (.i 2) H) : ACalls Try.prog 49 [.ptr t 0, .i i, .agg (encNode n)] H K := by
  refine acalls_body Try.func49 rfl rfl rfl ?_
  repeat (first|apply w6|apply w7)
  refine s_box rfl rfl rfl (fun b hb => ?_)
  have hne : t ≠ b := ne_of_get hb hT
  repeat (first|(apply w1;apply rfl;apply rfl)|apply w4|apply w5|apply w6|apply w7)
  refine s_call rfl rfl fk52 ?_
  refine at_c hw (.inl (by rw [put_ne hne]; exact hT)) (fun h1 => ?_) (fun h0 => ?_)
  · rw [if_pos h1] at hK
    repeat (first|(apply w1;apply rfl;apply rfl)|apply w4|apply w5|apply w6|apply w7|(apply w9;apply rfl)|apply wa)
    refine s_loadw tk rfl rfl (.inl (put_same _ _ _)) rfl rfl ?_
    skip
    refine s_call rfl rfl fk53 ?_
    refine right_c hn ?_
    repeat (first|(apply w1;apply rfl;apply rfl)|apply w4|apply w5)
    refine aw_cond rfl (fun g => ?_) (fun g => ?_)
    · have g : nodeOk n = false := by simpa using g
      rw [g] at hK
      repeat (first|(apply w1;apply rfl;apply rfl)|apply w4|apply w5|apply w6|apply w7|apply wd|apply we)
      exact rt1 rfl rfl (.refl _) (sub_new hb (AHeap.sub_refl _)) hK
    · have g : nodeOk n = true := by simpa using g
      rw [g] at hK
      repeat (first|(apply w1;apply rfl;apply rfl)|apply w5|apply w6|apply w7|apply wa)
      refine s_loadw tk rfl rfl (.inl (put_same _ _ _)) rfl rfl ?_
      skip
      refine s_call rfl rfl fk50 ?_
      refine own_c hn ?_
      repeat ((apply w1;apply rfl;apply rfl))
      refine s_storea tk rfl rfl (by rw [put_ne hne]; exact hT) rfl rfl (has_off hw h1) rfl (encTab_put T _ n (has_lt hw h1).2.2) ?_
      repeat (first|(apply w1;apply rfl;apply rfl)|apply w4|apply w5|apply w6|apply w7|apply wd)
      exact rt1 rfl rfl (.refl _) (AHeap.put_sub (sub_new hb (AHeap.sub_refl _)) _ _) hK
  · rw [h0] at hK
    repeat (first|(apply w1;apply rfl;apply rfl)|apply w4|apply w5|apply w6|apply w7|(apply w8;apply rfl)|apply wd|apply we)
    exact rt1 rfl rfl (.refl _) (sub_new hb (AHeap.sub_refl _)) hK
theorem drop_c {t : Nat} {T : Tab} (hw : T.wf) {i : Int} {H : AHeap} (hT : H t = some (.cells (encTab T))) {K : AVal → AHeap → Prop}
    (hK : if T.has i then K (.b true) (H.put t (.cells (encTab (T.put (i - 1).toNat Node.zero)))) else K (.b false) H) : ACalls Try.prog 46 [.ptr t 0, .i i] H K := by
  refine acalls_body Try.func46 rfl rfl rfl ?_
  repeat (first|(apply w1;apply rfl;apply rfl)|(apply w2;apply rfl)|(apply w3;apply rfl;apply rfl)|apply w4|apply w5|apply w6|apply w7|(apply w8;apply rfl)|(apply w9;apply rfl)|apply wa|apply wd|apply we|apply wb|apply wc|apply wf|apply wg|apply wh|(apply wi;apply rfl)|apply wj|apply wk|apply wl|apply wm|apply wn)
  refine s_call rfl rfl fk52 ?_
  refine at_c hw (.inl hT) (fun h1 => ?_) (fun h0 => ?_)
  · rw [if_pos h1] at hK
    repeat (first|(apply w1;apply rfl;apply rfl)|(apply w2;apply rfl)|(apply w3;apply rfl;apply rfl)|apply w4|apply w5|apply w6|apply w7|(apply w8;apply rfl)|(apply w9;apply rfl)|apply wa|apply wd|apply we|apply wb|apply wc|apply wf|apply wg|apply wh|(apply wi;apply rfl)|apply wj|apply wk|apply wl|apply wm|apply wn)
    refine s_build tk rfl rfl rfl rfl rfl rfl ?_
    repeat (first|(apply w1;apply rfl;apply rfl)|(apply w2;apply rfl)|(apply w3;apply rfl;apply rfl)|apply w4|apply w5|apply w6|apply w7|(apply w8;apply rfl)|(apply w9;apply rfl)|apply wa|apply wd|apply we|apply wb|apply wc|apply wf|apply wg|apply wh|(apply wi;apply rfl)|apply wj|apply wk|apply wl|apply wm|apply wn)
    refine s_storea tk rfl rfl hT rfl rfl (has_off hw h1) rfl rfl ?_
    repeat (first|(apply w1;apply rfl;apply rfl)|(apply w2;apply rfl)|(apply w3;apply rfl;apply rfl)|apply w4|apply w5|apply w6|apply w7|(apply w8;apply rfl)|(apply w9;apply rfl)|apply wa|apply wd|apply we|apply wb|apply wc|apply wf|apply wg|apply wh|(apply wi;apply rfl)|apply wj|apply wk|apply wl|apply wm|apply wn)
    refine rt1 rfl rfl (.refl _) (AHeap.put_sub_wk (AHeap.sub_refl _) _ (.cells ?_)) hK
    have e := encTab_put T (i - 1).toNat Node.zero (has_lt hw h1).2.2
    rw [← e]
    exact Wk.mid rfl (wk_agg rfl)
  · rw [h0] at hK
    repeat (first|(apply w1;apply rfl;apply rfl)|(apply w2;apply rfl)|(apply w3;apply rfl;apply rfl)|apply w4|apply w5|apply w6|apply w7|(apply w8;apply rfl)|(apply w9;apply rfl)|apply wa|apply wd|apply we|apply wb|apply wc|apply wf|apply wg|apply wh|(apply wi;apply rfl)|apply wj|apply wk|apply wl|apply wm|apply wn)
    exact rt1 rfl rfl (.refl _) (AHeap.sub_refl _) hK
end Abs
end Go.Proofs.Ytbldnaflffmddaa

set_option linter.unusedVariables false
namespace Go.Proofs.Ytbldnaflffmddaa
namespace Abs
set_option maxRecDepth 10000
attribute [local irreducible] AOps AW AP ACalls thenQ inBlk noGoto

theorem prot_done_put {H : AHeap} {bs : List Nat} {t : Nat} {o : HObj} {Q : AHeap → Prop} (ht : t ∉ bs) (h : Q (H.put t o)) : (∀ b, b ∈ bs → ((H.prot bs).put t o) b = H.prot bs b) ∧ Q (((H.prot bs).put t o).back H bs) :=
  ⟨fun b hb => put_ne (fun e => ht (e ▸ hb)), by
    have : ((H.prot bs).put t o).back H bs = H.put t o := by
      funext x
      unfold AHeap.back AHeap.put AHeap.prot
      by_cases hx : x ∈ bs
      · have : x ≠ t := fun e => ht (e ▸ hx)
        simp [hx, this]
      · by_cases hxt : x = t <;> simp [hx, hxt]
        intro h; exact absurd h ht
    rw [this]; exact h⟩

theorem add_c {t : Nat} {T : Tab} (hw : T.wf) {n : Node} (hn : n.small) {H : AHeap} (hT : H t = some (.cells (encTab T))) {K : AVal → AHeap → Prop}
    (h0 : nodeOk n = false → K (.tup [.i 0, .i 22]) H)
    (h1 : ∀ k : Nat, nodeOk n = true → (k : Int) < T.room → (∀ j : Nat, j < k → T.has (j + 1) = true) → T.has (k + 1) = false → K (.tup [.i (k + 1), .i 0]) (H.put t (.cells (encTab (T.put k n)))))
    (h2 : nodeOk n = true → (∀ j : Nat, (j : Int) < T.room → T.has (j + 1) = true) → K (.tup [.i 0, .i 28]) H) : ACalls Try.prog 35 [.ptr t 0, .agg (encNode n)] H K := by
  refine acalls_body Try.func35 rfl rfl rfl ?_
  repeat (first|apply w6|apply w7)
  refine s_box rfl rfl rfl (fun b hb => ?_)
  have hne : t ≠ b := ne_of_get hb hT
  repeat (first|(apply w1;apply rfl;apply rfl)|apply w4|apply w5|apply w6|apply w7)
  refine s_loadw tk rfl rfl (.inl (put_same _ _ _)) rfl rfl ?_
  skip
  refine s_call rfl rfl fk53 ?_
  refine right_c hn ?_
  repeat (first|(apply w1;apply rfl;apply rfl)|apply w4|apply w5)
  refine aw_cond rfl (fun g => ?_) (fun g => ?_)
  · have g : nodeOk n = false := by simpa using g
    repeat (first|(apply w1;apply rfl;apply rfl)|apply w4|apply w5|apply w6|apply w7|apply wd|apply we)
    exact rt2 rfl rfl rfl (.refl _) (sub_new hb (AHeap.sub_refl _)) (h0 g)
  have g : nodeOk n = true := by simpa using g
  have hrm := hw.2.1
  repeat (first|(apply w1;apply rfl;apply rfl)|apply w5|apply w6|apply w7|apply wa)
  refine s_call rfl rfl fk33 ?_
  refine room_c (T := T) (.inl (by rw [put_ne hne]; exact hT)) ?_
  repeat (first|(apply w1;apply rfl;apply rfl)|apply w4|apply w5|apply wb)
  refine aw_loop (fun k : Nat => (k : Int) ≤ T.room ∧ ∀ j : Nat, j < k → T.has (j + 1) = true) (fun k => [(0, .ptr t 0), (3, .ptr b 0), (11, .i T.room), (12, .i k)]) (fun _ => H.put b (.cells (encNode n))) (fun k => T.room.toNat - k) 0 ⟨by omega, fun j hj => absurd hj (Nat.not_lt_zero _)⟩ (Fr.sub_cons rfl (Fr.sub_cons rfl (Fr.sub_cons rfl (Fr.sub_cons rfl (Fr.sub_nil _))))) (AHeap.sub_refl _) ?_
  intro k ⟨hk, hall⟩
  repeat (first|(apply w1;apply rfl;apply rfl)|apply w4|apply w5|apply w6|apply w7)
  refine aw_cond rfl (fun c => ?_) (fun c => ?_)
  · have c' : (k : Int) < T.room := by simpa using c
    repeat (first|(apply w1;apply rfl;apply rfl)|apply w4|apply w5|apply w6|apply w7|apply wa|apply wb)
    refine s_add rfl rfl rfl (by omega) ?_
    skip
    refine s_call rfl rfl fk52 ?_
    refine at_c hw (.inl (by rw [put_ne hne]; exact hT)) (fun hh => ?_) (fun hh => ?_)
    · repeat (first|(apply w1;apply rfl;apply rfl)|apply w4|apply w5|apply w7|(apply w9;apply rfl)|apply wa|apply wg)
      refine s_add rfl rfl rfl (by omega) ?_
      repeat (first|(apply w1;apply rfl;apply rfl)|apply w4|apply w5)
      refine ⟨k + 1, ⟨by omega, fun j hj => ?_⟩, by omega, Fr.sub_cons rfl (Fr.sub_cons rfl (Fr.sub_cons rfl (Fr.sub_cons rfl (Fr.sub_nil _)))), AHeap.sub_refl _⟩
      rcases Nat.lt_or_ge j k with hj' | hj'
      · exact hall j hj'
      · have : j = k := by omega
        subst this; exact hh
    · repeat (first|(apply w1;apply rfl;apply rfl)|apply w4|apply w5|apply w6|(apply w8;apply rfl))
      refine aw_prot [b] (allc (.inl (put_same _ _ _)) (allc0 _)) ?_
      have hro := prot_get (bs := [b]) (List.mem_singleton.2 rfl) (.inl (put_same H b (.cells (encNode n))))
      have htb : t ∉ [b] := by simpa using hne
      refine aw_plan mixed (.take 0 (.take 1 (.take 2 (.take 4 (.take 5 (.one 3 (.take 6 (.one 7 .done)))))))) (by kernel_rfl) ?_
      repeat ((apply d1;apply rfl;apply rfl;apply rfl;apply rfl))
      refine d_roa rfl rfl rfl rfl hro rfl (Nat.le_refl _) rfl ?_
      repeat ((apply d1;apply rfl;apply rfl;apply rfl;apply rfl))
      refine d4 rfl ?_
      refine s_call rfl rfl fk50 ?_
      refine own_c hn ?_
      refine w4 ?_
      skip
      refine d_indexa rfl rfl rfl rfl rfl rfl rfl (by omega) (by omega) ?_
      skip
      refine d4 rfl ?_
      have hkl : k < T.nodes.length := by have := hw.1; omega
      refine s_storea tk rfl rfl (by rw [prot_other htb, put_ne hne]; exact hT) rfl rfl (by rw [encTab_len _ hw.1]; omega) rfl (encTab_put T k n hkl) ?_
      refine w4 ?_
      refine d3 ?_
      refine prot_done_put htb ?_
      repeat (first|(apply w1;apply rfl;apply rfl)|apply w5|apply w6|apply w7)
      refine s_add rfl rfl rfl (by omega) ?_
      repeat (first|(apply w1;apply rfl;apply rfl)|apply w4|apply w5|apply wd|apply we|apply wj)
      exact rt2 rfl rfl rfl (.refl _) (AHeap.put_sub (sub_new hb (AHeap.sub_refl _)) _ _) (h1 k g c' hall hh)
  · have hkr : (k : Int) = T.room := by have : ¬ (k : Int) < T.room := by simpa using c
                                        omega
    repeat (first|(apply w1;apply rfl;apply rfl)|apply w4|apply w5|apply w6|apply w7|apply wd|apply wc|apply wf|apply wh)
    exact rt2 rfl rfl rfl (.refl _) (sub_new hb (AHeap.sub_refl _)) (h2 g (fun j hj => hall j (by omega)))

/-- All nodes, one by one: what is told to a closure. -/
theorem each_c {t : Nat} {T : Tab} (hw : T.wf) {f : FuncId} {fs cs : List AVal} (hf : fnOk Try.prog f = true) (Hk : Nat → AHeap) (hT : ∀ k, Rd (Hk k) t (encTab T)) {K : AVal → AHeap → Prop}
    (step : ∀ k : Nat, (k : Int) < T.room → T.has (k + 1) = true → ∀ K : AVal → AHeap → Prop, (∀ r, K r (Hk (k + 1))) → ACalls Try.prog f (fs ++ [.i (k + 1), .ptr t (1 + k * 7)] ++ cs) (Hk k) K)
    (skip : ∀ k : Nat, T.has (k + 1) = false → (Hk (k + 1)).sub (Hk k)) (hK : K (.tup []) (Hk T.room.toNat)) : ACalls Try.prog 59 [.ptr t 0, .clo f fs cs] (Hk 0) K := by
  refine acalls_body Try.func59 rfl rfl rfl ?_
  have hrm := hw.2.1
  repeat (first|(apply w1;apply rfl;apply rfl)|apply w6|apply w7)
  refine s_call rfl rfl fk33 ?_
  refine room_c (T := T) (hT 0) ?_
  repeat (first|(apply w1;apply rfl;apply rfl)|apply w4|apply w5|apply wb)
  refine aw_loop (fun k : Nat => (k : Int) ≤ T.room) (fun k => [(0, .ptr t 0), (1, .clo f fs cs), (7, .i T.room), (8, .i k)]) Hk (fun k => T.room.toNat - k) 0 (by omega) (Fr.sub_cons rfl (Fr.sub_cons rfl (Fr.sub_cons rfl (Fr.sub_cons rfl (Fr.sub_nil _))))) (AHeap.sub_refl _) ?_
  intro k hk
  repeat (first|(apply w1;apply rfl;apply rfl)|apply w4|apply w5|apply w6|apply w7)
  refine aw_cond rfl (fun c => ?_) (fun c => ?_)
  · have c' : (k : Int) < T.room := by simpa using c
    repeat (first|(apply w1;apply rfl;apply rfl)|apply w4|apply w5|apply w6|apply w7|apply wa|apply wb)
    refine s_add rfl rfl rfl (by omega) ?_
    skip
    refine s_call rfl rfl fk52 ?_
    refine at_c hw (hT k) (fun hh => ?_) (fun hh => ?_)
    · repeat (first|(apply w1;apply rfl;apply rfl)|apply w4|apply w5|apply w6|apply w7|(apply w8;apply rfl))
      refine s_add rfl rfl rfl (by omega) ?_
      repeat ((apply w1;apply rfl;apply rfl))
      refine s_clo rfl rfl rfl hf ?_
      rw [show ((k : Int) + 1 - 1).toNat = k by omega]
      refine step k c' hh _ (fun r => ?_)
      repeat (first|apply w4|apply w5|apply w7|apply wg)
      refine s_add rfl rfl rfl (by omega) ?_
      repeat (first|(apply w1;apply rfl;apply rfl)|apply w4|apply w5)
      exact ⟨k + 1, by omega, by omega, Fr.sub_cons rfl (Fr.sub_cons rfl (Fr.sub_cons rfl (Fr.sub_cons rfl (Fr.sub_nil _)))), AHeap.sub_refl _⟩
    · repeat (first|(apply w1;apply rfl;apply rfl)|apply w4|apply w5|apply w6|apply w7|(apply w9;apply rfl)|apply wa|apply wg)
      refine s_add rfl rfl rfl (by omega) ?_
      repeat (first|(apply w1;apply rfl;apply rfl)|apply w4|apply w5)
      exact ⟨k + 1, by omega, by omega, Fr.sub_cons rfl (Fr.sub_cons rfl (Fr.sub_cons rfl (Fr.sub_cons rfl (Fr.sub_nil _)))), skip k hh⟩
  · have hkr : T.room.toNat = k := by have : ¬ (k : Int) < T.room := by simpa using c
                                      omega
    repeat (first|apply wc|apply wf|apply wh)
    refine rt0n rfl (AHeap.sub_refl _) ?_
    rw [← hkr]; exact hK
end Abs
end Go.Proofs.Ytbldnaflffmddaa

set_option linter.unusedVariables false
namespace Go.Proofs.Ytbldnaflffmddaa
namespace Abs
set_option maxRecDepth 10000
attribute [local irreducible] AOps AW AP ACalls thenQ inBlk noGoto

def Tab.cnt (T : Tab) : Nat → Int
  | 0 => 0
  | k + 1 => T.cnt k + if T.has (k + 1) then 1 else 0
def Tab.used (T : Tab) : Int := T.cnt T.room.toNat
theorem cnt_le (T : Tab) : ∀ k : Nat, 0 ≤ T.cnt k ∧ T.cnt k ≤ k
  | 0 => ⟨by simp [Tab.cnt], by simp [Tab.cnt]⟩
  | k + 1 => by
    have := cnt_le T k
    simp only [Tab.cnt]
    split <;> omega

theorem used1_c {d p : AVal} {b : Nat} {n : Int} {H : AHeap} (hb : H b = some (.cells [.i n])) (hn : 0 ≤ n ∧ n ≤ 1000000) {K : AVal → AHeap → Prop} (hK : ∀ r, K r (H.put b (.cells [.i (n + 1)]))) : ACalls Try.prog 60 [d, p, .ptr b 0] H K := by
  refine acalls_body Try.func60 rfl rfl rfl ?_
  repeat (first|(apply w1;apply rfl;apply rfl)|(apply w2;apply rfl)|(apply w3;apply rfl;apply rfl)|apply w4|apply w5|apply w6|apply w7|(apply w8;apply rfl)|(apply w9;apply rfl)|apply wa|apply wd|apply we|apply wb|apply wc|apply wf|apply wg|apply wh|(apply wi;apply rfl)|apply wj|apply wk|apply wl|apply wm|apply wn)
  refine s_load tk rfl rfl (.inl hb) rfl rfl ?_
  repeat (first|(apply w1;apply rfl;apply rfl)|(apply w2;apply rfl)|(apply w3;apply rfl;apply rfl)|apply w4|apply w5|apply w6|apply w7|(apply w8;apply rfl)|(apply w9;apply rfl)|apply wa|apply wd|apply we|apply wb|apply wc|apply wf|apply wg|apply wh|(apply wi;apply rfl)|apply wj|apply wk|apply wl|apply wm|apply wn)
  refine s_add rfl rfl rfl (by omega) ?_
  repeat (first|(apply w1;apply rfl;apply rfl)|(apply w2;apply rfl)|(apply w3;apply rfl;apply rfl)|apply w4|apply w5|apply w6|apply w7|(apply w8;apply rfl)|(apply w9;apply rfl)|apply wa|apply wd|apply we|apply wb|apply wc|apply wf|apply wg|apply wh|(apply wi;apply rfl)|apply wj|apply wk|apply wl|apply wm|apply wn)
  refine s_store tk rfl rfl hb rfl (ltb rfl) rfl ?_
  repeat (first|(apply w1;apply rfl;apply rfl)|(apply w2;apply rfl)|(apply w3;apply rfl;apply rfl)|apply w4|apply w5|apply w6|apply w7|(apply w8;apply rfl)|(apply w9;apply rfl)|apply wa|apply wd|apply we|apply wb|apply wc|apply wf|apply wg|apply wh|(apply wi;apply rfl)|apply wj|apply wk|apply wl|apply wm|apply wn)
  exact rt0n rfl (AHeap.sub_refl _) (hK _)
theorem used_c {t : Nat} {T : Tab} (hw : T.wf) {H : AHeap} (hT : Rd H t (encTab T)) {K : AVal → AHeap → Prop} (hK : K (.i T.used) H) : ACalls Try.prog 47 [.ptr t 0] H K := by
  refine acalls_body Try.func47 rfl rfl rfl ?_
  repeat (first|(apply w1;apply rfl;apply rfl)|(apply w2;apply rfl)|(apply w3;apply rfl;apply rfl)|apply w4|apply w5|apply w6|apply w7|(apply w8;apply rfl)|(apply w9;apply rfl)|apply wa|apply wd|apply we|apply wb|apply wc|apply wf|apply wg|apply wh|(apply wi;apply rfl)|apply wj|apply wk|apply wl|apply wm|apply wn)
  refine s_alloc tk rfl rfl rfl (fun b hb => ?_)
  have hne : t ≠ b := by rcases hT with h | h <;> exact ne_of_get hb h
  repeat (first|(apply w1;apply rfl;apply rfl)|(apply w2;apply rfl)|(apply w3;apply rfl;apply rfl)|apply w4|apply w5|apply w6|apply w7|(apply w8;apply rfl)|(apply w9;apply rfl)|apply wa|apply wd|apply we|apply wb|apply wc|apply wf|apply wg|apply wh|(apply wi;apply rfl)|apply wj|apply wk|apply wl|apply wm|apply wn)
  refine s_store tk rfl rfl (put_same _ _ _) rfl (ltb rfl) rfl ?_
  rw [put_put]
  repeat (first|(apply w1;apply rfl;apply rfl)|(apply w2;apply rfl)|(apply w3;apply rfl;apply rfl)|apply w4|apply w5|apply w6|apply w7|(apply w8;apply rfl)|(apply w9;apply rfl)|apply wa|apply wd|apply we|apply wb|apply wc|apply wf|apply wg|apply wh|(apply wi;apply rfl)|apply wj|apply wk|apply wl|apply wm|apply wn)
  refine s_call rfl rfl fk59 ?_
  refine each_c hw fk60 (fun k => H.put b (.cells [.i (T.cnt k)])) (fun k => by unfold Rd; rw [put_ne hne]; exact hT) (fun k hk hh K hK => ?_) (fun k hh => ?_) ?_
  · refine used1_c (put_same _ _ _) (by have := cnt_le T k; have := hw.2.1; omega) (fun r => ?_)
    rw [put_put]
    have e : T.cnt (k + 1) = T.cnt k + 1 := by simp only [Tab.cnt, hh, if_true]
    rw [← e]; exact hK r
  · have e : T.cnt (k + 1) = T.cnt k := by simp [Tab.cnt, hh]
    rw [e]; exact AHeap.sub_refl _
  · repeat (first|(apply w1;apply rfl;apply rfl)|(apply w2;apply rfl)|(apply w3;apply rfl;apply rfl)|apply w4|apply w5|apply w6|apply w7|(apply w8;apply rfl)|(apply w9;apply rfl)|apply wa|apply wd|apply we|apply wb|apply wc|apply wf|apply wg|apply wh|(apply wi;apply rfl)|apply wj|apply wk|apply wl|apply wm|apply wn)
    refine s_load tk rfl rfl (.inl (put_same _ _ _)) rfl rfl ?_
    repeat (first|(apply w1;apply rfl;apply rfl)|(apply w2;apply rfl)|(apply w3;apply rfl;apply rfl)|apply w4|apply w5|apply w6|apply w7|(apply w8;apply rfl)|(apply w9;apply rfl)|apply wa|apply wd|apply we|apply wb|apply wc|apply wf|apply wg|apply wh|(apply wi;apply rfl)|apply wj|apply wk|apply wl|apply wm|apply wn)
    exact rt1 rfl rfl (.refl _) (sub_new hb (AHeap.sub_refl _)) hK
end Abs
end Go.Proofs.Ytbldnaflffmddaa

set_option linter.unusedVariables false
namespace Go.Proofs.Ytbldnaflffmddaa
namespace Abs
set_option maxRecDepth 10000
attribute [local irreducible] AOps AW AP ACalls thenQ inBlk noGoto

/-! ### entries, by their directories -/
/-- What one directory tells: its number, for each of its entries that has node i. -/
def Tab.tellsOf (T : Tab) (i : Int) (k : Nat) : List Int := ((T.get (k + 1)).ents.filter fun e => decide (e.node = i)).map fun _ => (k : Int) + 1
def Tab.tells (T : Tab) (i : Int) : Nat → List Int
  | 0 => []
  | k + 1 => T.tells i k ++ if T.has (k + 1) then T.tellsOf i k else []
def Tab.links (T : Tab) (i : Int) : Int := (T.tells i T.room.toNat).length
end Abs
end Go.Proofs.Ytbldnaflffmddaa

set_option linter.unusedVariables false
namespace Go.Proofs.Ytbldnaflffmddaa
namespace Abs
set_option maxRecDepth 10000
attribute [local irreducible] AOps AW AP ACalls thenQ inBlk noGoto

def Tab.nd (T : Tab) (k : Nat) : Node := if T.has (k + 1) then T.get (k + 1) else Node.zero
theorem nd_small {T : Tab} (hw : T.wf) (k : Nat) : (T.nd k).small := by
  unfold Tab.nd
  split
  · exact get_small hw _
  · exact Node.zero_small
theorem put_id {H : AHeap} {b : Nat} {o : HObj} (h : H b = some o) : H.put b o = H := by
  funext x
  simp only [AHeap.put]
  split
  · rename_i e; rw [e, h]
  · rfl
end Abs
end Go.Proofs.Ytbldnaflffmddaa
