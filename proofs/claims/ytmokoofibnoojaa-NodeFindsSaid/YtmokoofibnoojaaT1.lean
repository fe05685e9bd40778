import Derived.Test.YtmokoofibnoojaaN1
set_option linter.unusedVariables false
namespace Go.Proofs.Ytmokoofibnoojaa
namespace Abs
set_option maxRecDepth 10000
attribute [local irreducible] AOps AW ACalls thenQ inBlk noGoto

/-! ### package table -/
theorem ltb {a b : Nat} (h : Nat.ble (a + 1) b = true) : a < b := Nat.le_of_ble_eq_true h
theorem leb {a b : Nat} (h : Nat.ble a b = true) : a ≤ b := Nat.le_of_ble_eq_true h
theorem flat_bytes (s : ByteArray) : flatA (encBytes s).flatten = true := by
  rw [encBytes, flatten_single]
  simp only [flatA, List.all_eq_true]
  intro x hx
  obtain ⟨c, _, rfl⟩ := List.mem_map.1 hx
  rfl
theorem flat_ents (l : List Ent) : flatA (l.map encEnt).flatten = true := by
  simp only [flatA, List.all_eq_true]
  intro x hx
  obtain ⟨y, hy, hxy⟩ := List.mem_flatten.1 hx
  obtain ⟨e, _, rfl⟩ := List.mem_map.1 hy
  simp only [encEnt, List.mem_cons, List.not_mem_nil, or_false] at hxy
  rcases hxy with rfl | rfl <;> rfl
theorem Uni.flat_set {es : Nat} : ∀ {xs : List (List AVal)}, Uni es xs → ∀ (k : Nat) (r : List AVal), k < xs.length → xs.flatten.take (k * es) ++ r ++ xs.flatten.drop (k * es + es) = (xs.set k r).flatten
  | [], _, k, r, h => absurd h (Nat.not_lt_zero _)
  | x :: xs, hu, 0, r, _ => by
    have hx : x.length = es := hu x (List.mem_cons_self)
    simp [← hx]
  | x :: xs, hu, k + 1, r, h => by
    have hx : x.length = es := hu x (List.mem_cons_self)
    have ih := Uni.flat_set (xs := xs) (fun y hy => hu y (List.mem_cons_of_mem _ hy)) k r (by simpa using h)
    have e : (k + 1) * es = x.length + k * es := by rw [Nat.succ_mul, hx]; omega
    rw [e, List.flatten_cons, List.take_length_add_append, Nat.add_assoc, List.drop_length_add_append, List.set_cons_succ, List.flatten_cons, ← ih]
    simp only [List.append_assoc]
def Tab.put (T : Tab) (k : Nat) (n : Node) : Tab := ⟨T.room, T.nodes.set k n⟩
theorem encTab_put (T : Tab) (k : Nat) (n : Node) (hk : k < T.nodes.length) : (encTab T).take (1 + k * 7) ++ encNode n ++ (encTab T).drop (1 + k * 7 + 7) = encTab (T.put k n) := by
  have := (uni_nodes T.nodes).flat_set k (encNode n) (by simpa using hk)
  rw [show 1 + k * 7 = (k * 7) + 1 by omega, show k * 7 + 1 + 7 = (k * 7 + 7) + 1 by omega, encTab, List.take_succ_cons, List.drop_succ_cons, encTab, Tab.put, List.map_set, ← this]
  rfl
def noTok : AVal → AVal
  | .sl xs _ => .sl xs .no
  | v => v
theorem wk_noTok (v : AVal) : Wk v (noTok v) := by
  cases v <;> first | exact .refl _ | exact .sl _ _
theorem wk_noToks (l : List AVal) : Wk (.agg l) (.agg (l.map noTok)) := .agg (by simp) (fun j h h' => by simp only [List.getElem_map]; exact wk_noTok _)
theorem wk_agg {l l' : List AVal} (h : l.map noTok = l') : Wk (.agg l) (.agg l') := h ▸ wk_noToks l
theorem flat_node (n : Node) : flatA (encNode n) = true := rfl

theorem own_c {n : Node} {H : AHeap} {K : AVal → AHeap → Prop} (hs : n.small) (hK : K (.agg (encNode n)) H) : ACalls Try.prog 61 [.agg (encNode n)] H K := by
  refine acalls_body Try.func61 rfl rfl rfl ?_
  repeat (first|(apply w1;apply rfl;apply rfl)|(apply w2;apply rfl)|(apply w3;apply rfl;apply rfl)|apply w4|apply w5|apply w6|apply w7|(apply w8;apply rfl)|(apply w9;apply rfl)|apply wa|apply wd|apply we|apply wb|apply wc|apply wf|apply wg|apply wh|(apply wi;apply rfl)|apply wj|apply wk|apply wl|apply wm|apply wn)
  refine s_box rfl rfl rfl (fun b1 h1 => ?_)
  repeat (first|(apply w1;apply rfl;apply rfl)|(apply w2;apply rfl)|(apply w3;apply rfl;apply rfl)|apply w4|apply w5|apply w6|apply w7|(apply w8;apply rfl)|(apply w9;apply rfl)|apply wa|apply wd|apply we|apply wb|apply wc|apply wf|apply wg|apply wh|(apply wi;apply rfl)|apply wj|apply wk|apply wl|apply wm|apply wn)
  refine s_alloc tk rfl rfl rfl (fun b2 h2 => ?_)
  obtain ⟨n21, h2'⟩ := put_none h2
  repeat (first|(apply w1;apply rfl;apply rfl)|(apply w2;apply rfl)|(apply w3;apply rfl;apply rfl)|apply w4|apply w5|apply w6|apply w7|(apply w8;apply rfl)|(apply w9;apply rfl)|apply wa|apply wd|apply we|apply wb|apply wc|apply wf|apply wg|apply wh|(apply wi;apply rfl)|apply wj|apply wk|apply wl|apply wm|apply wn)
  refine s_load tk rfl rfl (.inl (by rw [put_ne (Ne.symm n21), put_same])) rfl rfl ?_
  repeat (first|(apply w1;apply rfl;apply rfl)|(apply w2;apply rfl)|(apply w3;apply rfl;apply rfl)|apply w4|apply w5|apply w6|apply w7|(apply w8;apply rfl)|(apply w9;apply rfl)|apply wa|apply wd|apply we|apply wb|apply wc|apply wf|apply wg|apply wh|(apply wi;apply rfl)|apply wj|apply wk|apply wl|apply wm|apply wn)
  refine s_call rfl rfl fk100 ?_
  refine clone_bytes (uni_bytes _) (flat_bytes _) (by rw [encBytes_len]; have := hs.1; omega) ?_
  repeat (first|(apply w1;apply rfl;apply rfl)|(apply w2;apply rfl)|(apply w3;apply rfl;apply rfl)|apply w4|apply w5|apply w6|apply w7|(apply w8;apply rfl)|(apply w9;apply rfl)|apply wa|apply wd|apply we|apply wb|apply wc|apply wf|apply wg|apply wh|(apply wi;apply rfl)|apply wj|apply wk|apply wl|apply wm|apply wn)
  refine s_store tk rfl rfl (by rw [put_ne (Ne.symm n21), put_same]) rfl (ltb rfl) rfl ?_
  repeat (first|(apply w1;apply rfl;apply rfl)|(apply w2;apply rfl)|(apply w3;apply rfl;apply rfl)|apply w4|apply w5|apply w6|apply w7|(apply w8;apply rfl)|(apply w9;apply rfl)|apply wa|apply wd|apply we|apply wb|apply wc|apply wf|apply wg|apply wh|(apply wi;apply rfl)|apply wj|apply wk|apply wl|apply wm|apply wn)
  refine s_load tk rfl rfl (.inl (put_same _ _ _)) rfl rfl ?_
  repeat (first|(apply w1;apply rfl;apply rfl)|(apply w2;apply rfl)|(apply w3;apply rfl;apply rfl)|apply w4|apply w5|apply w6|apply w7|(apply w8;apply rfl)|(apply w9;apply rfl)|apply wa|apply wd|apply we|apply wb|apply wc|apply wf|apply wg|apply wh|(apply wi;apply rfl)|apply wj|apply wk|apply wl|apply wm|apply wn)
  refine s_call rfl rfl fk101 ?_
  refine clone_ents (uni_ents _) (flat_ents _) (by rw [ents_len]; have := hs.2; omega) ?_
  repeat (first|(apply w1;apply rfl;apply rfl)|(apply w2;apply rfl)|(apply w3;apply rfl;apply rfl)|apply w4|apply w5|apply w6|apply w7|(apply w8;apply rfl)|(apply w9;apply rfl)|apply wa|apply wd|apply we|apply wb|apply wc|apply wf|apply wg|apply wh|(apply wi;apply rfl)|apply wj|apply wk|apply wl|apply wm|apply wn)
  refine s_store tk rfl rfl (put_same _ _ _) rfl (ltb rfl) rfl ?_
  repeat (first|(apply w1;apply rfl;apply rfl)|(apply w2;apply rfl)|(apply w3;apply rfl;apply rfl)|apply w4|apply w5|apply w6|apply w7|(apply w8;apply rfl)|(apply w9;apply rfl)|apply wa|apply wd|apply we|apply wb|apply wc|apply wf|apply wg|apply wh|(apply wi;apply rfl)|apply wj|apply wk|apply wl|apply wm|apply wn)
  refine s_loadw tk rfl rfl (.inl (put_same _ _ _)) rfl rfl ?_
  repeat (first|(apply w1;apply rfl;apply rfl)|(apply w2;apply rfl)|(apply w3;apply rfl;apply rfl)|apply w4|apply w5|apply w6|apply w7|(apply w8;apply rfl)|(apply w9;apply rfl)|apply wa|apply wd|apply we|apply wb|apply wc|apply wf|apply wg|apply wh|(apply wi;apply rfl)|apply wj|apply wk|apply wl|apply wm|apply wn)
  refine s_storew tk rfl rfl (by rw [put_ne n21, put_ne n21, put_same]) rfl rfl rfl rfl ?_
  repeat (first|(apply w1;apply rfl;apply rfl)|(apply w2;apply rfl)|(apply w3;apply rfl;apply rfl)|apply w4|apply w5|apply w6|apply w7|(apply w8;apply rfl)|(apply w9;apply rfl)|apply wa|apply wd|apply we|apply wb|apply wc|apply wf|apply wg|apply wh|(apply wi;apply rfl)|apply wj|apply wk|apply wl|apply wm|apply wn)
  refine rt1c rfl rfl (.inl (put_same _ _ _)) rfl rfl (.refl _) ?_ hK
  exact sub_new h2' (sub_new h1 (sub_new h1 (sub_new h2' (sub_new h1 (AHeap.sub_refl _)))))
theorem at_c {t : Nat} {T : Tab} (hw : T.wf) {i : Int} {H : AHeap} (hT : Rd H t (encTab T)) {K : AVal → AHeap → Prop}
    (h1 : T.has i = true → K (.ptr t (1 + (i - 1).toNat * 7)) H) (h0 : T.has i = false → K .nilp H) : ACalls Try.prog 60 [.ptr t 0, .i i] H K := by
  refine acalls_body Try.func60 rfl rfl rfl ?_
  repeat (first|(apply w1;apply rfl;apply rfl)|(apply w2;apply rfl)|(apply w3;apply rfl;apply rfl)|apply w4|apply w5|apply w6|apply w7|(apply w8;apply rfl)|(apply w9;apply rfl)|apply wa|apply wd|apply we|apply wb|apply wc|apply wf|apply wg|apply wh|(apply wi;apply rfl)|apply wj|apply wk|apply wl|apply wm|apply wn)
  refine s_gsplit rfl rfl (fun g1 => ?_) (fun g1 => ?_)
  · repeat (first|(apply w1;apply rfl;apply rfl)|(apply w2;apply rfl)|(apply w3;apply rfl;apply rfl)|apply w4|apply w5|apply w6|apply w7|(apply w8;apply rfl)|(apply w9;apply rfl)|apply wa|apply wd|apply we|apply wb|apply wc|apply wf|apply wg|apply wh|(apply wi;apply rfl)|apply wj|apply wk|apply wl|apply wm|apply wn)
    exact rt1 rfl rfl (.refl _) (AHeap.sub_refl _) (h0 (by simp [Tab.has] at g1 ⊢; omega))
  repeat (first|(apply w1;apply rfl;apply rfl)|(apply w2;apply rfl)|(apply w3;apply rfl;apply rfl)|apply w4|apply w5|apply w6|apply w7|(apply w8;apply rfl)|(apply w9;apply rfl)|apply wa|apply wd|apply we|apply wb|apply wc|apply wf|apply wg|apply wh|(apply wi;apply rfl)|apply wj|apply wk|apply wl|apply wm|apply wn)
  refine s_load tk rfl rfl hT rfl rfl ?_
  repeat (first|(apply w1;apply rfl;apply rfl)|(apply w2;apply rfl)|(apply w3;apply rfl;apply rfl)|apply w4|apply w5|apply w6|apply w7|(apply w8;apply rfl)|(apply w9;apply rfl)|apply wa|apply wd|apply we|apply wb|apply wc|apply wf|apply wg|apply wh|(apply wi;apply rfl)|apply wj|apply wk|apply wl|apply wm|apply wn)
  refine s_gsplit rfl rfl (fun g2 => ?_) (fun g2 => ?_)
  · repeat (first|(apply w1;apply rfl;apply rfl)|(apply w2;apply rfl)|(apply w3;apply rfl;apply rfl)|apply w4|apply w5|apply w6|apply w7|(apply w8;apply rfl)|(apply w9;apply rfl)|apply wa|apply wd|apply we|apply wb|apply wc|apply wf|apply wg|apply wh|(apply wi;apply rfl)|apply wj|apply wk|apply wl|apply wm|apply wn)
    exact rt1 rfl rfl (.refl _) (AHeap.sub_refl _) (h0 (by simp [Tab.has] at g2 ⊢; omega))
  repeat (first|(apply w1;apply rfl;apply rfl)|(apply w2;apply rfl)|(apply w3;apply rfl;apply rfl)|apply w4|apply w5|apply w6|apply w7|(apply w8;apply rfl)|(apply w9;apply rfl)|apply wa|apply wd|apply we|apply wb|apply wc|apply wf|apply wg|apply wh|(apply wi;apply rfl)|apply wj|apply wk|apply wl|apply wm|apply wn)
  simp only [decide_eq_false_iff_not] at g1 g2
  obtain ⟨hl, ⟨hr1, hr2⟩, _⟩ := hw
  refine s_sub rfl rfl rfl (by omega) ?_
  repeat (first|(apply w1;apply rfl;apply rfl)|(apply w2;apply rfl)|(apply w3;apply rfl;apply rfl)|apply w4|apply w5|apply w6|apply w7|(apply w8;apply rfl)|(apply w9;apply rfl)|apply wa|apply wd|apply we|apply wb|apply wc|apply wf|apply wg|apply wh|(apply wi;apply rfl)|apply wj|apply wk|apply wl|apply wm|apply wn)
  refine s_indexa tk rfl rfl rfl rfl rfl (by omega) (by omega) ?_
  repeat (first|(apply w1;apply rfl;apply rfl)|(apply w2;apply rfl)|(apply w3;apply rfl;apply rfl)|apply w4|apply w5|apply w6|apply w7|(apply w8;apply rfl)|(apply w9;apply rfl)|apply wa|apply wd|apply we|apply wb|apply wc|apply wf|apply wg|apply wh|(apply wi;apply rfl)|apply wj|apply wk|apply wl|apply wm|apply wn)
  have hn : (i - 1).toNat < T.nodes.length := by omega
  refine s_load tk rfl rfl hT rfl ((encTab_get T (i - 1).toNat 0 (by omega)).trans (by rw [List.getElem?_eq_getElem hn]; rfl)) ?_
  repeat (first|(apply w1;apply rfl;apply rfl)|(apply w2;apply rfl)|(apply w3;apply rfl;apply rfl)|apply w4|apply w5|apply w6|apply w7|(apply w8;apply rfl)|(apply w9;apply rfl)|apply wa|apply wd|apply we|apply wb|apply wc|apply wf|apply wg|apply wh|(apply wi;apply rfl)|apply wj|apply wk|apply wl|apply wm|apply wn)
  have hk : T.has i = !decide ((T.nodes[(i - 1).toNat]).kind = 0) := by
    unfold Tab.has
    rw [List.getD_eq_getElem?_getD, List.getElem?_eq_getElem hn, decide_eq_true (show 1 ≤ i by omega), decide_eq_true (show i ≤ T.room by omega)]
    rfl
  refine aw_cond rfl (fun g3 => ?_) (fun g3 => ?_)
  · repeat (first|(apply w1;apply rfl;apply rfl)|(apply w2;apply rfl)|(apply w3;apply rfl;apply rfl)|apply w4|apply w5|apply w6|apply w7|(apply w8;apply rfl)|(apply w9;apply rfl)|apply wa|apply wd|apply we|apply wb|apply wc|apply wf|apply wg|apply wh|(apply wi;apply rfl)|apply wj|apply wk|apply wl|apply wm|apply wn)
    exact rt1 rfl rfl (.refl _) (AHeap.sub_refl _) (h0 (by rw [hk, g3]; rfl))
  · repeat (first|(apply w1;apply rfl;apply rfl)|(apply w2;apply rfl)|(apply w3;apply rfl;apply rfl)|apply w4|apply w5|apply w6|apply w7|(apply w8;apply rfl)|(apply w9;apply rfl)|apply wa|apply wd|apply we|apply wb|apply wc|apply wf|apply wg|apply wh|(apply wi;apply rfl)|apply wj|apply wk|apply wl|apply wm|apply wn)
    refine s_sub rfl rfl rfl (by omega) ?_
    repeat (first|(apply w1;apply rfl;apply rfl)|(apply w2;apply rfl)|(apply w3;apply rfl;apply rfl)|apply w4|apply w5|apply w6|apply w7|(apply w8;apply rfl)|(apply w9;apply rfl)|apply wa|apply wd|apply we|apply wb|apply wc|apply wf|apply wg|apply wh|(apply wi;apply rfl)|apply wj|apply wk|apply wl|apply wm|apply wn)
    refine s_indexa tk rfl rfl rfl rfl rfl (by omega) (by omega) ?_
    repeat (first|(apply w1;apply rfl;apply rfl)|(apply w2;apply rfl)|(apply w3;apply rfl;apply rfl)|apply w4|apply w5|apply w6|apply w7|(apply w8;apply rfl)|(apply w9;apply rfl)|apply wa|apply wd|apply we|apply wb|apply wc|apply wf|apply wg|apply wh|(apply wi;apply rfl)|apply wj|apply wk|apply wl|apply wm|apply wn)
    exact rt1 rfl rfl (.refl _) (AHeap.sub_refl _) (h1 (by rw [hk, g3]; rfl))
end Abs
end Go.Proofs.Ytmokoofibnoojaa
