import Derived.Test.YtmokoofibnoojaaT1
set_option linter.unusedVariables false
namespace Go.Proofs.Ytmokoofibnoojaa
namespace Abs
set_option maxRecDepth 10000
attribute [local irreducible] AOps AW ACalls thenQ inBlk noGoto

def Tab.new (room : Int) : Tab := ⟨min (max room 1) 24, List.replicate 24 Node.zero⟩
theorem Node.zero_small : Node.zero.small := ⟨by decide, by decide⟩
theorem new_wf (room : Int) : (Tab.new room).wf := ⟨by simp [Tab.new], ⟨by simp only [Tab.new]; omega, by simp only [Tab.new]; omega⟩, fun n hn => by
  have := List.eq_of_mem_replicate hn
  subst this; exact Node.zero_small⟩
theorem put_wf {T : Tab} (h : T.wf) {n : Node} (hn : n.small) (k : Nat) : (T.put k n).wf := ⟨by simp [Tab.put, h.1], h.2.1, fun m hm => by
  rcases List.mem_or_eq_of_mem_set hm with hm | rfl
  · exact h.2.2 m hm
  · exact hn⟩
theorem get_small {T : Tab} (h : T.wf) (i : Int) : (T.get i).small := by
  unfold Tab.get
  rw [List.getD_eq_getElem?_getD]
  rcases Nat.lt_or_ge (i - 1).toNat T.nodes.length with hi | hi
  · rw [List.getElem?_eq_getElem hi]; exact h.2.2 _ (List.getElem_mem hi)
  · rw [List.getElem?_eq_none hi]; exact Node.zero_small
theorem has_lt {T : Tab} (h : T.wf) {i : Int} (hi : T.has i = true) : 1 ≤ i ∧ i ≤ T.room ∧ (i - 1).toNat < T.nodes.length := by
  unfold Tab.has at hi
  simp only [Bool.and_eq_true, decide_eq_true_eq] at hi
  have := h.1; have := h.2.1
  omega
theorem encTab_row {T : Tab} (h : T.wf) {i : Int} (hi : T.has i = true) : ((encTab T).drop (1 + (i - 1).toNat * 7)).take 7 = encNode (T.get i) := by
  have hl := (has_lt h hi).2.2
  rw [encTab_agg, Tab.get, List.getD_eq_getElem?_getD, List.getElem?_eq_getElem hl]
  rfl

theorem Wk.pre {l : List AVal} : ∀ (p : List AVal) {l' : List AVal}, Wk (.agg l) (.agg l') → Wk (.agg (p ++ l)) (.agg (p ++ l'))
  | [], _, h => h
  | a :: p, _, h => .cons (.refl _) (Wk.pre p h)
theorem Wk.post {q : List AVal} : ∀ {l l' : List AVal}, l.length = l'.length → Wk (.agg l) (.agg l') → Wk (.agg (l ++ q)) (.agg (l' ++ q))
  | l, l', hl, h => by
    cases h with
    | refl => exact .refl _
    | agg _ k =>
      refine .agg (by simp [hl]) (fun j h h' => ?_)
      rcases Nat.lt_or_ge j l.length with hj | hj
      · rw [List.getElem_append_left hj, List.getElem_append_left (hl ▸ hj)]; exact k j hj (hl ▸ hj)
      · rw [List.getElem_append_right hj, List.getElem_append_right (hl ▸ hj)]
        simp only [hl]; exact .refl _
theorem Wk.mid {p q l l' : List AVal} (hl : l.length = l'.length) (h : Wk (.agg l) (.agg l')) : Wk (.agg (p ++ l ++ q)) (.agg (p ++ l' ++ q)) := .post (by simp [hl]) (.pre p h)
theorem room_c {t : Nat} {T : Tab} {H : AHeap} (hT : Rd H t (encTab T)) {K : AVal → AHeap → Prop} (hK : K (.i T.room) H) : ACalls Try.prog 28 [.ptr t 0] H K := by
  refine acalls_body Try.func28 rfl rfl rfl ?_
  repeat (first|(apply w1;apply rfl;apply rfl)|(apply w2;apply rfl)|(apply w3;apply rfl;apply rfl)|apply w4|apply w5|apply w6|apply w7|(apply w8;apply rfl)|(apply w9;apply rfl)|apply wa|apply wd|apply we|apply wb|apply wc|apply wf|apply wg|apply wh|(apply wi;apply rfl)|apply wj|apply wk|apply wl|apply wm|apply wn)
  refine s_load tk rfl rfl hT rfl rfl ?_
  repeat (first|(apply w1;apply rfl;apply rfl)|(apply w2;apply rfl)|(apply w3;apply rfl;apply rfl)|apply w4|apply w5|apply w6|apply w7|(apply w8;apply rfl)|(apply w9;apply rfl)|apply wa|apply wd|apply we|apply wb|apply wc|apply wf|apply wg|apply wh|(apply wi;apply rfl)|apply wj|apply wk|apply wl|apply wm|apply wn)
  exact rt1 rfl rfl (.refl _) (AHeap.sub_refl _) hK
theorem room_nil {H : AHeap} {K : AVal → AHeap → Prop} (hK : K (.i 0) H) : ACalls Try.prog 28 [.nilp] H K := by
  refine acalls_body Try.func28 rfl rfl rfl ?_
  repeat (first|(apply w1;apply rfl;apply rfl)|(apply w2;apply rfl)|(apply w3;apply rfl;apply rfl)|apply w4|apply w5|apply w6|apply w7|(apply w8;apply rfl)|(apply w9;apply rfl)|apply wa|apply wd|apply we|apply wb|apply wc|apply wf|apply wg|apply wh|(apply wi;apply rfl)|apply wj|apply wk|apply wl|apply wm|apply wn)
  exact rt1 rfl rfl (.refl _) (AHeap.sub_refl _) hK
theorem new_c {room : Int} {H : AHeap} {K : AVal → AHeap → Prop} (hK : ∀ t, H t = none → K (.ptr t 0) (H.put t (.cells (encTab (Tab.new room))))) : ACalls Try.prog 82 [.i room] H K := by
  refine acalls_body Try.func82 rfl rfl rfl ?_
  repeat (first|(apply w1;apply rfl;apply rfl)|(apply w2;apply rfl)|(apply w3;apply rfl;apply rfl)|apply w4|apply w5|apply w6|apply w7|(apply w8;apply rfl)|(apply w9;apply rfl)|apply wa|apply wd|apply we|apply wb|apply wc|apply wf|apply wg|apply wh|(apply wi;apply rfl)|apply wj|apply wk|apply wl|apply wm|apply wn)
  refine s_build tk rfl rfl rfl rfl rfl rfl ?_
  repeat (first|(apply w1;apply rfl;apply rfl)|(apply w2;apply rfl)|(apply w3;apply rfl;apply rfl)|apply w4|apply w5|apply w6|apply w7|(apply w8;apply rfl)|(apply w9;apply rfl)|apply wa|apply wd|apply we|apply wb|apply wc|apply wf|apply wg|apply wh|(apply wi;apply rfl)|apply wj|apply wk|apply wl|apply wm|apply wn)
  refine s_box rfl rfl rfl (fun t ht => ?_)
  repeat (first|(apply w1;apply rfl;apply rfl)|(apply w2;apply rfl)|(apply w3;apply rfl;apply rfl)|apply w4|apply w5|apply w6|apply w7|(apply w8;apply rfl)|(apply w9;apply rfl)|apply wa|apply wd|apply we|apply wb|apply wc|apply wf|apply wg|apply wh|(apply wi;apply rfl)|apply wj|apply wk|apply wl|apply wm|apply wn)
  have hr : (if 24 < (if 1 > room then 1 else room) then 24 else if 1 > room then 1 else room) = min (max room 1) 24 := by
    split <;> split at * <;> omega
  have hK' := hK t ht
  rw [Tab.new, ← hr] at hK'
  exact rt1 rfl rfl (.refl _) (AHeap.put_sub_wk (AHeap.sub_refl _) t (.cells (wk_agg (l' := encTab ⟨if 24 < (if 1 > room then 1 else room) then 24 else if 1 > room then 1 else room, List.replicate 24 Node.zero⟩) rfl))) hK'
theorem get_c {t : Nat} {T : Tab} (hw : T.wf) {i : Int} {H : AHeap} (hT : Rd H t (encTab T)) {K : AVal → AHeap → Prop}
    (hK : K (.tup [.agg (encNode (if T.has i then T.get i else Node.zero)), .b (T.has i)]) H) : ACalls Try.prog 22 [.ptr t 0, .i i] H K := by
  refine acalls_body Try.func22 rfl rfl rfl ?_
  repeat (first|(apply w1;apply rfl;apply rfl)|(apply w2;apply rfl)|(apply w3;apply rfl;apply rfl)|apply w4|apply w5|apply w6|apply w7|(apply w8;apply rfl)|(apply w9;apply rfl)|apply wa|apply wd|apply we|apply wb|apply wc|apply wf|apply wg|apply wh|(apply wi;apply rfl)|apply wj|apply wk|apply wl|apply wm|apply wn)
  refine s_alloc tk rfl rfl rfl (fun b hb => ?_)
  have hne : t ≠ b := by rcases hT with h | h <;> exact ne_of_get hb h
  repeat (first|(apply w1;apply rfl;apply rfl)|(apply w2;apply rfl)|(apply w3;apply rfl;apply rfl)|apply w4|apply w5|apply w6|apply w7|(apply w8;apply rfl)|(apply w9;apply rfl)|apply wa|apply wd|apply we|apply wb|apply wc|apply wf|apply wg|apply wh|(apply wi;apply rfl)|apply wj|apply wk|apply wl|apply wm|apply wn)
  refine s_call rfl rfl fk60 ?_
  refine at_c hw (by unfold Rd; rw [put_ne hne]; exact hT) (fun h1 => ?_) (fun h0 => ?_)
  · rw [h1, if_pos rfl] at hK
    repeat (first|(apply w1;apply rfl;apply rfl)|(apply w2;apply rfl)|(apply w3;apply rfl;apply rfl)|apply w4|apply w5|apply w6|apply w7|(apply w8;apply rfl)|(apply w9;apply rfl)|apply wa|apply wd|apply we|apply wb|apply wc|apply wf|apply wg|apply wh|(apply wi;apply rfl)|apply wj|apply wk|apply wl|apply wm|apply wn)
    refine s_loada tk rfl rfl (by unfold Rd; rw [put_ne hne]; exact hT) rfl (by rw [encTab_len _ hw.1]; have := has_lt hw h1; have := hw.2.1; omega) (encTab_row hw h1) ?_
    repeat (first|(apply w1;apply rfl;apply rfl)|(apply w2;apply rfl)|(apply w3;apply rfl;apply rfl)|apply w4|apply w5|apply w6|apply w7|(apply w8;apply rfl)|(apply w9;apply rfl)|apply wa|apply wd|apply we|apply wb|apply wc|apply wf|apply wg|apply wh|(apply wi;apply rfl)|apply wj|apply wk|apply wl|apply wm|apply wn)
    refine s_call rfl rfl fk61 ?_
    refine own_c (get_small hw i) ?_
    repeat (first|(apply w1;apply rfl;apply rfl)|(apply w2;apply rfl)|(apply w3;apply rfl;apply rfl)|apply w4|apply w5|apply w6|apply w7|(apply w8;apply rfl)|(apply w9;apply rfl)|apply wa|apply wd|apply we|apply wb|apply wc|apply wf|apply wg|apply wh|(apply wi;apply rfl)|apply wj|apply wk|apply wl|apply wm|apply wn)
    refine s_storew tk rfl rfl (put_same _ _ _) rfl rfl rfl rfl ?_
    repeat (first|(apply w1;apply rfl;apply rfl)|(apply w2;apply rfl)|(apply w3;apply rfl;apply rfl)|apply w4|apply w5|apply w6|apply w7|(apply w8;apply rfl)|(apply w9;apply rfl)|apply wa|apply wd|apply we|apply wb|apply wc|apply wf|apply wg|apply wh|(apply wi;apply rfl)|apply wj|apply wk|apply wl|apply wm|apply wn)
    refine rt2c rfl rfl (.inl (put_same _ _ _)) rfl rfl rfl (.refl _) (sub_new hb (sub_new hb (AHeap.sub_refl _)) ) hK
  · rw [h0] at hK
    repeat (first|(apply w1;apply rfl;apply rfl)|(apply w2;apply rfl)|(apply w3;apply rfl;apply rfl)|apply w4|apply w5|apply w6|apply w7|(apply w8;apply rfl)|(apply w9;apply rfl)|apply wa|apply wd|apply we|apply wb|apply wc|apply wf|apply wg|apply wh|(apply wi;apply rfl)|apply wj|apply wk|apply wl|apply wm|apply wn)
    refine s_build tk rfl rfl rfl rfl rfl rfl ?_
    repeat (first|(apply w1;apply rfl;apply rfl)|(apply w2;apply rfl)|(apply w3;apply rfl;apply rfl)|apply w4|apply w5|apply w6|apply w7|(apply w8;apply rfl)|(apply w9;apply rfl)|apply wa|apply wd|apply we|apply wb|apply wc|apply wf|apply wg|apply wh|(apply wi;apply rfl)|apply wj|apply wk|apply wl|apply wm|apply wn)
    refine s_storew tk rfl rfl (put_same _ _ _) rfl rfl rfl rfl ?_
    repeat (first|(apply w1;apply rfl;apply rfl)|(apply w2;apply rfl)|(apply w3;apply rfl;apply rfl)|apply w4|apply w5|apply w6|apply w7|(apply w8;apply rfl)|(apply w9;apply rfl)|apply wa|apply wd|apply we|apply wb|apply wc|apply wf|apply wg|apply wh|(apply wi;apply rfl)|apply wj|apply wk|apply wl|apply wm|apply wn)
    refine rt2c rfl rfl (.inl (put_same _ _ _)) rfl rfl rfl (.pair (wk_agg rfl) (.refl _)) (sub_new hb (sub_new hb (AHeap.sub_refl _)) ) hK
theorem has_off {T : Tab} (h : T.wf) {i : Int} (hi : T.has i = true) : 1 + (i - 1).toNat * 7 + 7 ≤ (encTab T).length := by
  rw [encTab_len _ h.1]; have := has_lt h hi; have := h.2.1; omega
theorem put_c {t : Nat} {T : Tab} (hw : T.wf) {i : Int} {n : Node} (hn : n.small) {H : AHeap} (hT : H t = some (.cells (encTab T))) {K : AVal → AHeap → Prop}
    (hK : if T.has i then (if nodeOk n then K (.i 0) (H.put t (.cells (encTab (T.put (i - 1).toNat n)))) else K (.i 22) H) else K (.i 2) H) : ACalls Try.prog 29 [.ptr t 0, .i i, .agg (encNode n)] H K := by
  refine acalls_body Try.func29 rfl rfl rfl ?_
  repeat (first|(apply w1;apply rfl;apply rfl)|(apply w2;apply rfl)|(apply w3;apply rfl;apply rfl)|apply w4|apply w5|apply w6|apply w7|(apply w8;apply rfl)|(apply w9;apply rfl)|apply wa|apply wd|apply we|apply wb|apply wc|apply wf|apply wg|apply wh|(apply wi;apply rfl)|apply wj|apply wk|apply wl|apply wm|apply wn)
  refine s_box rfl rfl rfl (fun b hb => ?_)
  have hne : t ≠ b := ne_of_get hb hT
  repeat (first|(apply w1;apply rfl;apply rfl)|(apply w2;apply rfl)|(apply w3;apply rfl;apply rfl)|apply w4|apply w5|apply w6|apply w7|(apply w8;apply rfl)|(apply w9;apply rfl)|apply wa|apply wd|apply we|apply wb|apply wc|apply wf|apply wg|apply wh|(apply wi;apply rfl)|apply wj|apply wk|apply wl|apply wm|apply wn)
  refine s_call rfl rfl fk60 ?_
  refine at_c hw (.inl (by rw [put_ne hne]; exact hT)) (fun h1 => ?_) (fun h0 => ?_)
  · rw [if_pos h1] at hK
    repeat (first|(apply w1;apply rfl;apply rfl)|(apply w2;apply rfl)|(apply w3;apply rfl;apply rfl)|apply w4|apply w5|apply w6|apply w7|(apply w8;apply rfl)|(apply w9;apply rfl)|apply wa|apply wd|apply we|apply wb|apply wc|apply wf|apply wg|apply wh|(apply wi;apply rfl)|apply wj|apply wk|apply wl|apply wm|apply wn)
    refine s_loadw tk rfl rfl (.inl (put_same _ _ _)) rfl rfl ?_
    repeat (first|(apply w1;apply rfl;apply rfl)|(apply w2;apply rfl)|(apply w3;apply rfl;apply rfl)|apply w4|apply w5|apply w6|apply w7|(apply w8;apply rfl)|(apply w9;apply rfl)|apply wa|apply wd|apply we|apply wb|apply wc|apply wf|apply wg|apply wh|(apply wi;apply rfl)|apply wj|apply wk|apply wl|apply wm|apply wn)
    refine s_call rfl rfl fk33 ?_
    refine right_c hn ?_
    repeat (first|(apply w1;apply rfl;apply rfl)|(apply w2;apply rfl)|(apply w3;apply rfl;apply rfl)|apply w4|apply w5|apply w6|apply w7|(apply w8;apply rfl)|(apply w9;apply rfl)|apply wa|apply wd|apply we|apply wb|apply wc|apply wf|apply wg|apply wh|(apply wi;apply rfl)|apply wj|apply wk|apply wl|apply wm|apply wn)
    refine aw_cond rfl (fun g => ?_) (fun g => ?_)
    · have g : nodeOk n = false := by simpa using g
      rw [g] at hK
      repeat (first|(apply w1;apply rfl;apply rfl)|(apply w2;apply rfl)|(apply w3;apply rfl;apply rfl)|apply w4|apply w5|apply w6|apply w7|(apply w8;apply rfl)|(apply w9;apply rfl)|apply wa|apply wd|apply we|apply wb|apply wc|apply wf|apply wg|apply wh|(apply wi;apply rfl)|apply wj|apply wk|apply wl|apply wm|apply wn)
      exact rt1 rfl rfl (.refl _) (sub_new hb (AHeap.sub_refl _)) hK
    · have g : nodeOk n = true := by simpa using g
      rw [g] at hK
      repeat (first|(apply w1;apply rfl;apply rfl)|(apply w2;apply rfl)|(apply w3;apply rfl;apply rfl)|apply w4|apply w5|apply w6|apply w7|(apply w8;apply rfl)|(apply w9;apply rfl)|apply wa|apply wd|apply we|apply wb|apply wc|apply wf|apply wg|apply wh|(apply wi;apply rfl)|apply wj|apply wk|apply wl|apply wm|apply wn)
      refine s_loadw tk rfl rfl (.inl (put_same _ _ _)) rfl rfl ?_
      repeat (first|(apply w1;apply rfl;apply rfl)|(apply w2;apply rfl)|(apply w3;apply rfl;apply rfl)|apply w4|apply w5|apply w6|apply w7|(apply w8;apply rfl)|(apply w9;apply rfl)|apply wa|apply wd|apply we|apply wb|apply wc|apply wf|apply wg|apply wh|(apply wi;apply rfl)|apply wj|apply wk|apply wl|apply wm|apply wn)
      refine s_call rfl rfl fk61 ?_
      refine own_c hn ?_
      repeat (first|(apply w1;apply rfl;apply rfl)|(apply w2;apply rfl)|(apply w3;apply rfl;apply rfl)|apply w4|apply w5|apply w6|apply w7|(apply w8;apply rfl)|(apply w9;apply rfl)|apply wa|apply wd|apply we|apply wb|apply wc|apply wf|apply wg|apply wh|(apply wi;apply rfl)|apply wj|apply wk|apply wl|apply wm|apply wn)
      refine s_storea tk rfl rfl (by rw [put_ne hne]; exact hT) rfl rfl (has_off hw h1) rfl (encTab_put T _ n (has_lt hw h1).2.2) ?_
      repeat (first|(apply w1;apply rfl;apply rfl)|(apply w2;apply rfl)|(apply w3;apply rfl;apply rfl)|apply w4|apply w5|apply w6|apply w7|(apply w8;apply rfl)|(apply w9;apply rfl)|apply wa|apply wd|apply we|apply wb|apply wc|apply wf|apply wg|apply wh|(apply wi;apply rfl)|apply wj|apply wk|apply wl|apply wm|apply wn)
      exact rt1 rfl rfl (.refl _) (AHeap.put_sub (sub_new hb (AHeap.sub_refl _)) _ _) hK
  · rw [h0] at hK
    repeat (first|(apply w1;apply rfl;apply rfl)|(apply w2;apply rfl)|(apply w3;apply rfl;apply rfl)|apply w4|apply w5|apply w6|apply w7|(apply w8;apply rfl)|(apply w9;apply rfl)|apply wa|apply wd|apply we|apply wb|apply wc|apply wf|apply wg|apply wh|(apply wi;apply rfl)|apply wj|apply wk|apply wl|apply wm|apply wn)
    exact rt1 rfl rfl (.refl _) (sub_new hb (AHeap.sub_refl _)) hK
end Abs
end Go.Proofs.Ytmokoofibnoojaa
