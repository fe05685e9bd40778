import Derived.Test.YtpifnlodilcgkaaQ1
import Derived.Test.YtpifnlodilcgkaaT1
import Derived.Test.YtpifnlodilcgkaaS1
set_option linter.unusedVariables false
namespace Go.Proofs.Ytpifnlodilcgkaa
namespace Abs
set_option maxRecDepth 10000
attribute [local irreducible] AOps AW AP ACalls thenQ inBlk noGoto

/-! ### the document's chapter 09: tables as lists -/
def encT (l : List Node) : List AVal := [.sl (l.map encM) .no]
theorem uni_ms (l : List Node) : Uni 8 (l.map encM) := fun x hx => by
  obtain ⟨e, _, rfl⟩ := List.mem_map.1 hx; rfl
theorem ms_len (l : List Node) : (l.map encM).length = l.length := by simp
theorem ms_get (l : List Node) (k : Nat) (h : k < l.length) : (l.map encM)[(k : Int).toNat]? = some (encM l[k]) := by simp [h]
theorem ms_get' (l : List Node) (k : Nat) (h : k < l.length) : (l.map encM)[k]? = some (encM l[k]) := by rw [List.getElem?_map, List.getElem?_eq_getElem h]; rfl
theorem flat_m (n : Node) : flatA (encM n) = true := rfl
def ris (l : List Node) (i : Int) : Bool := decide (1 ≤ i) && decide (i ≤ l.length) && !decide ((l.getD (i - 1).toNat Node.zero).kind = 0)
def rget (l : List Node) (i : Int) : Node := if 1 ≤ i ∧ i ≤ l.length then l.getD (i - 1).toNat Node.zero else Node.zero
theorem ris_c {l : List Node} {i : Int} {H : AHeap} {K : AVal → AHeap → Prop} (hl : l.length ≤ 1073741824) (hK : K (.b (ris l i)) H) : ACalls Try.prog 89 [.agg (encT l), .i i] H K := by
  refine acalls_body Try.func89 rfl rfl rfl ?_
  unfold ris at hK
  have ll := ms_len l
  repeat (first|(apply w1;apply rfl;apply rfl)|(apply w2;apply rfl)|(apply w3;apply rfl;apply rfl)|apply w4|apply w5|apply w6|apply w7|(apply w8;apply rfl)|(apply w9;apply rfl)|apply wa|apply wd|apply we|apply wb|apply wc|apply wf|apply wg|apply wh|(apply wi;apply rfl)|apply wj|apply wk|apply wl|apply wm|apply wn)
  refine s_box rfl rfl rfl (fun b hb => ?_)
  have hsub : H.sub (H.put b (.cells (encT l))) := sub_new hb (AHeap.sub_refl _)
  have hrd : Rd (H.put b (.cells (encT l))) b (encT l) := .inl (put_same _ _ _)
  generalize H.put b (.cells (encT l)) = X at hsub hrd ⊢
  repeat (first|(apply w1;apply rfl;apply rfl)|(apply w2;apply rfl)|(apply w3;apply rfl;apply rfl)|apply w4|apply w5|apply w6|apply w7|(apply w8;apply rfl)|(apply w9;apply rfl)|apply wa|apply wd|apply we|apply wb|apply wc|apply wf|apply wg|apply wh|(apply wi;apply rfl)|apply wj|apply wk|apply wl|apply wm|apply wn|(apply s_load tk;apply rfl;apply rfl;(assumption);apply rfl;apply rfl)|(apply s_ept tk;apply rfl;apply rfl;apply rfl;apply rfl))
  refine s_gsplit rfl rfl (fun g1 => ?_) (fun g1 => ?_)
  case refine_2 =>
    have : ¬ 1 ≤ i := by simp at g1; omega
    rw [decide_eq_false this] at hK
    repeat (first|(apply w1;apply rfl;apply rfl)|(apply w2;apply rfl)|(apply w3;apply rfl;apply rfl)|apply w4|apply w5|apply w6|apply w7|(apply w8;apply rfl)|(apply w9;apply rfl)|apply wa|apply wd|apply we|apply wb|apply wc|apply wf|apply wg|apply wh|(apply wi;apply rfl)|apply wj|apply wk|apply wl|apply wm|apply wn|(apply s_load tk;apply rfl;apply rfl;(assumption);apply rfl;apply rfl)|(apply s_ept tk;apply rfl;apply rfl;apply rfl;apply rfl))
    exact rt1 rfl rfl (.refl _) hsub hK
  have g1' : 1 ≤ i := by simp at g1; omega
  rw [decide_eq_true g1', Bool.true_and] at hK
  repeat (first|(apply w1;apply rfl;apply rfl)|(apply w2;apply rfl)|(apply w3;apply rfl;apply rfl)|apply w4|apply w5|apply w6|apply w7|(apply w8;apply rfl)|(apply w9;apply rfl)|apply wa|apply wd|apply we|apply wb|apply wc|apply wf|apply wg|apply wh|(apply wi;apply rfl)|apply wj|apply wk|apply wl|apply wm|apply wn|(apply s_load tk;apply rfl;apply rfl;(assumption);apply rfl;apply rfl)|(apply s_ept tk;apply rfl;apply rfl;apply rfl;apply rfl))
  refine s_gsplit rfl rfl (fun g2 => ?_) (fun g2 => ?_)
  case refine_2 =>
    have : ¬ i ≤ l.length := by have := of_decide_eq_false g2; omega
    rw [decide_eq_false this] at hK
    repeat (first|(apply w1;apply rfl;apply rfl)|(apply w2;apply rfl)|(apply w3;apply rfl;apply rfl)|apply w4|apply w5|apply w6|apply w7|(apply w8;apply rfl)|(apply w9;apply rfl)|apply wa|apply wd|apply we|apply wb|apply wc|apply wf|apply wg|apply wh|(apply wi;apply rfl)|apply wj|apply wk|apply wl|apply wm|apply wn|(apply s_load tk;apply rfl;apply rfl;(assumption);apply rfl;apply rfl)|(apply s_ept tk;apply rfl;apply rfl;apply rfl;apply rfl))
    exact rt1 rfl rfl (.refl _) hsub hK
  have g2' : i ≤ l.length := by have := of_decide_eq_true g2; omega
  rw [decide_eq_true g2', Bool.true_and] at hK
  have hk : (i - 1).toNat < l.length := by omega
  repeat (first|(apply w1;apply rfl;apply rfl)|(apply w2;apply rfl)|(apply w3;apply rfl;apply rfl)|apply w4|apply w5|apply w6|apply w7|(apply w8;apply rfl)|(apply w9;apply rfl)|apply wa|apply wd|apply we|apply wb|apply wc|apply wf|apply wg|apply wh|(apply wi;apply rfl)|apply wj|apply wk|apply wl|apply wm|apply wn|(apply s_load tk;apply rfl;apply rfl;(assumption);apply rfl;apply rfl)|(apply s_ept tk;apply rfl;apply rfl;apply rfl;apply rfl))
  refine s_sub rfl rfl rfl (by omega) ?_
  repeat (first|(apply w1;apply rfl;apply rfl)|(apply w2;apply rfl)|(apply w3;apply rfl;apply rfl)|apply w4|apply w5|apply w6|apply w7|(apply w8;apply rfl)|(apply w9;apply rfl)|apply wa|apply wd|apply we|apply wb|apply wc|apply wf|apply wg|apply wh|(apply wi;apply rfl)|apply wj|apply wk|apply wl|apply wm|apply wn|(apply s_load tk;apply rfl;apply rfl;(assumption);apply rfl;apply rfl)|(apply s_ept tk;apply rfl;apply rfl;apply rfl;apply rfl))
  refine s_index tk rfl rfl rfl rfl (by omega) (ms_get' l _ hk) rfl ?_
  repeat (first|(apply w1;apply rfl;apply rfl)|(apply w2;apply rfl)|(apply w3;apply rfl;apply rfl)|apply w4|apply w5|apply w6|apply w7|(apply w8;apply rfl)|(apply w9;apply rfl)|apply wa|apply wd|apply we|apply wb|apply wc|apply wf|apply wg|apply wh|(apply wi;apply rfl)|apply wj|apply wk|apply wl|apply wm|apply wn|(apply s_load tk;apply rfl;apply rfl;(assumption);apply rfl;apply rfl)|(apply s_ept tk;apply rfl;apply rfl;apply rfl;apply rfl))
  refine rt1 rfl rfl (.refl _) hsub ?_
  rw [List.getD_eq_getElem?_getD, List.getElem?_eq_getElem hk, Option.getD_some] at hK
  exact hK
theorem rget_c {l : List Node} {i : Int} {H : AHeap} {K : AVal → AHeap → Prop} (hl : l.length ≤ 1073741824) (hK : K (.agg (encM (rget l i))) H) : ACalls Try.prog 55 [.agg (encT l), .i i] H K := by
  refine acalls_body Try.func55 rfl rfl rfl ?_
  have ll := ms_len l
  repeat (first|apply w6|apply w7)
  refine s_box rfl rfl rfl (fun b hb => ?_)
  have hsub : H.sub (H.put b (.cells (encT l))) := sub_new hb (AHeap.sub_refl _)
  have hrd : Rd (H.put b (.cells (encT l))) b (encT l) := .inl (put_same _ _ _)
  generalize H.put b (.cells (encT l)) = X at hsub hrd ⊢
  skip
  refine s_alloc tk rfl rfl rfl (fun b4 h4 => ?_)
  have hne : b ≠ b4 := fun e => by rcases hrd with h | h <;> (rw [e, h4] at h; cases h)
  have hrd4 : ∀ o, Rd (X.put b4 o) b (encT l) := fun o => by unfold Rd; rw [put_ne hne]; exact hrd
  have hsub4 : H.sub X := hsub
  repeat (first|(apply w1;apply rfl;apply rfl)|apply w4|apply w5|apply w6|apply w7)
  have hzero : ¬ (1 ≤ i ∧ i ≤ l.length) → K (.agg (encM Node.zero)) H := fun h => by unfold rget at hK; rw [if_neg h] at hK; exact hK
  refine s_gsplit rfl rfl (fun g1 => ?_) (fun g1 => ?_)
  · repeat (first|(apply w1;apply rfl;apply rfl)|(apply w3;apply rfl;apply rfl)|apply w4|apply w5|apply w6|apply w7|(apply w8;apply rfl))
    refine s_build tk rfl rfl rfl rfl rfl rfl ?_
    skip
    refine s_storew tk rfl rfl (put_same _ _ _) rfl rfl rfl rfl ?_
    repeat (first|apply w4|apply w5|apply wd|apply we)
    exact rt1c rfl rfl (.inl (put_same _ _ _)) rfl rfl (wk_agg rfl) (AHeap.sub_trans hsub4 (sub_new h4 (sub_new h4 (AHeap.sub_refl _)))) (hzero (fun h => by simp at g1; omega))
  have g1' : 1 ≤ i := by simp at g1; omega
  repeat (first|(apply w1;apply rfl;apply rfl)|(apply w2;apply rfl))
  refine s_load tk rfl rfl (hrd4 _) rfl rfl ?_
  repeat (first|(apply w1;apply rfl;apply rfl)|(apply w2;apply rfl)|apply w4|apply w5)
  refine aw_cond rfl (fun g2 => ?_) (fun g2 => ?_)
  · repeat (first|apply w6|apply w7)
    refine s_build tk rfl rfl rfl rfl rfl rfl ?_
    skip
    refine s_storew tk rfl rfl (put_same _ _ _) rfl rfl rfl rfl ?_
    repeat (first|apply w4|apply w5|apply wd|apply we)
    exact rt1c rfl rfl (.inl (put_same _ _ _)) rfl rfl (wk_agg rfl) (AHeap.sub_trans hsub4 (sub_new h4 (sub_new h4 (AHeap.sub_refl _)))) (hzero (fun h => by have := of_decide_eq_true g2; omega))
  have g2' : i ≤ l.length := by have := of_decide_eq_false g2; omega
  have hk : (i - 1).toNat < l.length := by omega
  have hK' : K (.agg (encM l[(i - 1).toNat])) H := by
    unfold rget at hK
    rw [if_pos ⟨g1', g2'⟩, List.getD_eq_getElem?_getD, List.getElem?_eq_getElem hk, Option.getD_some] at hK
    exact hK
  repeat (first|(apply w1;apply rfl;apply rfl)|apply w5|apply w6|apply w7|apply wa)
  refine s_load tk rfl rfl (hrd4 _) rfl rfl ?_
  repeat ((apply w1;apply rfl;apply rfl))
  refine s_sub rfl rfl rfl (by omega) ?_
  skip
  refine s_index tk rfl rfl rfl rfl (by omega) (ms_get' l _ hk) rfl ?_
  skip
  refine s_epta (ds := encM l[(i - 1).toNat]) tk rfl rfl rfl (Nat.le_refl 8) rfl ?_
  skip
  refine s_storew tk rfl rfl (put_same _ _ _) rfl rfl rfl rfl ?_
  repeat (first|apply w4|apply w5|apply wd)
  exact rt1c rfl rfl (.inl (put_same _ _ _)) rfl rfl (.refl _) (AHeap.sub_trans hsub4 (sub_new h4 (sub_new h4 (AHeap.sub_refl _)))) hK'
theorem splice_rep {l : List Node} {k : Nat} (hk : k < l.length) (n : Node) (B : List AVal) :
    ((l.map encM).flatten ++ B).take (k * 8) ++ encM n ++ ((l.map encM).flatten ++ B).drop (k * 8 + 8) = ((l.set k n).map encM).flatten ++ B := by
  have h := (uni_ms l).flat_set k (encM n) (by simpa using hk)
  have hl : (l.map encM).flatten.length = l.length * 8 := by rw [(uni_ms l).len, ms_len]
  have h1 : k * 8 + 8 ≤ l.length * 8 := by omega
  rw [List.take_append_of_le_length (by omega), List.drop_append_of_le_length (by omega), ← List.append_assoc, h, List.map_set]
theorem rwith_c {l : List Node} {i : Int} {n : Node} (hi : 1 ≤ i ∧ i ≤ l.length) {H : AHeap} {K : AVal → AHeap → Prop} (hl : l.length ≤ 1000) (hK : K (.agg (encT (l.set (i - 1).toNat n))) H) : ACalls Try.prog 56 [.agg (encT l), .i i, .agg (encM n)] H K := by
  refine acalls_body Try.func56 rfl rfl rfl ?_
  have ll := ms_len l
  have hk : (i - 1).toNat < l.length := by omega
  repeat (first|apply w6|apply w7)
  refine s_box rfl rfl rfl (fun b3 h3 => ?_)
  skip
  refine s_box rfl rfl rfl (fun b5 h5 => ?_)
  obtain ⟨n53, h5'⟩ := put_none h5
  skip
  refine s_alloc tk rfl rfl rfl (fun b6 h6 => ?_)
  obtain ⟨n65, h6'⟩ := put_none h6
  obtain ⟨n63, h6''⟩ := put_none h6'
  repeat (first|(apply w1;apply rfl;apply rfl)|apply w4|apply w5|apply w6|apply w7)
  refine s_load tk rfl rfl (.inl (by rw [put_ne (Ne.symm n63), put_ne (Ne.symm n53), put_same])) rfl rfl ?_
  skip
  refine s_append_row tk rfl rfl rfl rfl rfl rfl rfl (uni_ms l) (by omega) (by omega) (fun b cap hb hcap => ?_)
  obtain ⟨nb6, hb'⟩ := put_none hb
  obtain ⟨nb5, hb''⟩ := put_none hb'
  obtain ⟨nb3, hb3⟩ := put_none hb''
  repeat (first|(apply w1;apply rfl;apply rfl)|apply w4|apply w5|apply w6|apply w7)
  refine s_sub rfl rfl rfl (by omega) ?_
  skip
  refine s_loadw tk rfl rfl (.inl (by rw [put_ne (Ne.symm nb5), put_ne (Ne.symm n65), put_same])) rfl rfl ?_
  skip
  refine s_indexr tk rfl rfl rfl rfl (by omega) (by omega) ?_
  skip
  have hlen : ((l.map encM).flatten).length = l.length * 8 := by rw [(uni_ms l).len, ms_len]
  refine s_storea (ds := ((l.set (i - 1).toNat n).map encM).flatten ++ rep (cap - (l.map encM).length) _) tk rfl rfl (put_same _ _ _) rfl rfl (by rw [List.length_append, hlen]; omega) (flat_m n) (by rw [Nat.zero_add]; exact splice_rep hk n _) ?_
  rw [put_put]
  refine w4 ?_
  refine w5 ?_
  refine w6 ?_
  refine w7 ?_
  have hset : ((l.set (i - 1).toNat n).map encM).length = (l.map encM).length := by simp
  have hlen2 : (((l.set (i - 1).toNat n).map encM).flatten).length = (l.map encM).length * 8 := by rw [(uni_ms _).len, hset]
  refine aops_close (d := 7) (rows := (l.set (i - 1).toNat n).map encM) (es := 8) rfl (put_same _ _ _) (by decide) (uni_ms _) hset (by rw [List.drop_zero, List.take_left' hlen2]) (by omega) hcap
    (by rw [List.length_append, hlen2, rep_len, Nat.zero_add]; show cap * 8 ≤ _ + (cap - _) * 8; omega) ?_
  have hdel : ∀ (x : Nat) (o : HObj), x ≠ b → ∀ Y : AHeap, ((Y.put b o).del b) x = Y x := fun x o hx Y => by simp [AHeap.del, AHeap.put, hx]
  repeat ((apply w1;apply rfl;apply rfl))
  refine s_build tk rfl rfl rfl rfl rfl rfl ?_
  skip
  refine s_storew tk rfl rfl (by rw [hdel _ _ (Ne.symm nb6), put_same]) rfl rfl rfl rfl ?_
  repeat (first|apply w4|apply w5|apply wd)
  refine rt1c rfl rfl (.inl (put_same _ _ _)) rfl rfl (.refl _) ?_ hK
  refine sub_new h6'' (fun x o hx => ?_)
  have hxb : x ≠ b := fun e => by rw [e, hb3] at hx; cases hx
  have hx6 : x ≠ b6 := fun e => by rw [e, h6''] at hx; cases hx
  have hx5 : x ≠ b5 := fun e => by rw [e, h5'] at hx; cases hx
  have hx3 : x ≠ b3 := fun e => by rw [e, h3] at hx; cases hx
  refine ⟨o, ?_, .refl o⟩
  rw [hdel _ _ hxb, put_ne hx6, put_ne hx5, put_ne hx3]
  exact hx
end Abs
end Go.Proofs.Ytpifnlodilcgkaa

set_option linter.unusedVariables false
namespace Go.Proofs.Ytpifnlodilcgkaa
namespace Abs
set_option maxRecDepth 10000
attribute [local irreducible] AOps AW AP ACalls thenQ inBlk noGoto

def rtells (l : List Node) (i : Int) : Nat → List Int
  | 0 => []
  | k + 1 => rtells l i k ++ tellsIn i ((k : Int) + 1) (l.getD k Node.zero).ents
def smallL (l : List Node) : Prop := l.length ≤ 1000 ∧ ∀ n ∈ l, n.small
theorem rtells_len {l : List Node} (h : ∀ n ∈ l, n.small) (i : Int) : ∀ k : Nat, (rtells l i k).length ≤ k * 1073741824
  | 0 => by show (0 : Nat) ≤ _; exact Nat.zero_le _
  | k + 1 => by
    have ih := rtells_len h i k
    have h2 : (l.getD k Node.zero).ents.length ≤ 1073741824 := by
      rw [List.getD_eq_getElem?_getD]
      rcases Nat.lt_or_ge k l.length with hk | hk
      · rw [List.getElem?_eq_getElem hk]; exact (h _ (List.getElem_mem hk)).2
      · rw [List.getElem?_eq_none hk]; exact Nat.zero_le _
    have h3 := tellsIn_len i ((k : Int) + 1) (l.getD k Node.zero).ents
    simp only [rtells]
    rw [List.length_append]
    omega
theorem tellsIn_step (i d : Int) (es : List Ent) (j : Nat) (h : j < es.length) : tellsIn i d (es.take (j + 1)) = tellsIn i d (es.take j) ++ if es[j].node = i then [d] else [] := by
  rw [List.take_add_one, List.getElem?_eq_getElem h]
  simp only [tellsIn, List.filter_append, List.map_append]
  congr 1
  by_cases h : es[j].node = i <;> simp [h]
theorem rlinks_c {l : List Node} (hs : smallL l) {i : Int} {H : AHeap} {K : AVal → AHeap → Prop} (hK : K (.i (rtells l i l.length).length) H) : ACalls Try.prog 97 [.agg (encT l), .i i] H K := by
  refine acalls_body Try.func97 rfl rfl rfl ?_
  have ll := ms_len l
  obtain ⟨hl, hsm⟩ := hs
  repeat (first|(apply w1;apply rfl;apply rfl)|(apply w2;apply rfl)|(apply w3;apply rfl;apply rfl)|apply w4|apply w5|apply w6|apply w7|(apply w8;apply rfl)|(apply w9;apply rfl)|apply wa|apply wd|apply we|apply wb|apply wc|apply wf|apply wg|apply wh|(apply wi;apply rfl)|apply wj|apply wk|apply wl|apply wm|apply wn)
  refine s_box rfl rfl rfl (fun b hb => ?_)
  have hsub : H.sub (H.put b (.cells (encT l))) := sub_new hb (AHeap.sub_refl _)
  have hrd : Rd (H.put b (.cells (encT l))) b (encT l) := .inl (put_same _ _ _)
  generalize H.put b (.cells (encT l)) = X at hsub hrd ⊢
  repeat (first|(apply w1;apply rfl;apply rfl)|(apply w2;apply rfl)|(apply w3;apply rfl;apply rfl)|apply w4|apply w5|apply w6|apply w7|(apply w8;apply rfl)|(apply w9;apply rfl)|apply wa|apply wd|apply we|apply wb|apply wc|apply wf|apply wg|apply wh|(apply wi;apply rfl)|apply wj|apply wk|apply wl|apply wm|apply wn|(apply s_load tk;apply rfl;apply rfl;(assumption);apply rfl;apply rfl)|(apply s_ept tk;apply rfl;apply rfl;apply rfl;apply rfl))
  refine aw_loop (fun d : Nat => d ≤ l.length) (fun d => [(1, .i i), (2, .ptr b 0), (5, .i (rtells l i d).length), (6, .i d)]) (fun _ => X) (fun d => l.length - d) 0 (Nat.zero_le _) (Fr.sub_cons rfl (Fr.sub_cons rfl (Fr.sub_cons rfl (Fr.sub_cons rfl (Fr.sub_nil _))))) (AHeap.sub_refl _) ?_
  intro d hd
  repeat (first|(apply w1;apply rfl;apply rfl)|(apply w2;apply rfl)|(apply w3;apply rfl;apply rfl)|apply w4|apply w5|apply w6|apply w7|(apply w8;apply rfl)|(apply w9;apply rfl)|apply wa|apply wd|apply we|apply wb|apply wc|apply wf|apply wg|apply wh|(apply wi;apply rfl)|apply wj|apply wk|apply wl|apply wm|apply wn|(apply s_load tk;apply rfl;apply rfl;(assumption);apply rfl;apply rfl)|(apply s_ept tk;apply rfl;apply rfl;apply rfl;apply rfl))
  refine aw_cond rfl (fun c => ?_) (fun c => ?_)
  case refine_2 =>
    have : d = l.length := by have := of_decide_eq_false c; omega
    subst this
    repeat (first|(apply w1;apply rfl;apply rfl)|(apply w2;apply rfl)|(apply w3;apply rfl;apply rfl)|apply w4|apply w5|apply w6|apply w7|(apply w8;apply rfl)|(apply w9;apply rfl)|apply wa|apply wd|apply we|apply wb|apply wc|apply wf|apply wg|apply wh|(apply wi;apply rfl)|apply wj|apply wk|apply wl|apply wm|apply wn|(apply s_load tk;apply rfl;apply rfl;(assumption);apply rfl;apply rfl)|(apply s_ept tk;apply rfl;apply rfl;apply rfl;apply rfl))
    exact rt1 rfl rfl (.refl _) hsub hK
  have c' : d < l.length := by have := of_decide_eq_true c; omega
  have hb1 := rtells_len hsm i d
  have hg : l.getD d Node.zero = l[d] := by rw [List.getD_eq_getElem?_getD, List.getElem?_eq_getElem c']; rfl
  have hstep : rtells l i (d + 1) = rtells l i d ++ tellsIn i ((d : Int) + 1) l[d].ents := by simp only [rtells, hg]
  have hesm := (hsm _ (List.getElem_mem c')).2
  have hget := ms_get l d c'
  generalize l[d] = n at hstep hesm hget
  have lk := kids_len n.ents
  have hA : ∀ j, (rtells l i d ++ tellsIn i ((d : Int) + 1) (n.ents.take j)).length ≤ 1000 * 1073741824 + 1073741824 := fun j => by
    have h1 := tellsIn_len i ((d : Int) + 1) (n.ents.take j)
    rw [List.length_take] at h1
    rw [List.length_append]
    omega
  repeat (first|(apply w1;apply rfl;apply rfl)|(apply w2;apply rfl)|(apply w3;apply rfl;apply rfl)|apply w4|apply w5|apply w6|apply w7|(apply w8;apply rfl)|(apply w9;apply rfl)|apply wa|apply wd|apply we|apply wb|apply wc|apply wf|apply wg|apply wh|(apply wi;apply rfl)|apply wj|apply wk|apply wl|apply wm|apply wn|(apply s_load tk;apply rfl;apply rfl;(assumption);apply rfl;apply rfl)|(apply s_ept tk;apply rfl;apply rfl;apply rfl;apply rfl))
  refine aw_loop (fun j : Nat => j ≤ n.ents.length) (fun j => [(1, .i i), (2, .ptr b 0), (5, .i (rtells l i d ++ tellsIn i ((d : Int) + 1) (n.ents.take j)).length), (6, .i d), (7, .i j)]) (fun _ => X) (fun j => n.ents.length - j) 0 (Nat.zero_le _)
    (Fr.sub_cons rfl (Fr.sub_cons rfl (Fr.sub_cons ?_ (Fr.sub_cons rfl (Fr.sub_cons rfl (Fr.sub_nil _)))))) (AHeap.sub_refl _) ?_
  · rw [List.take_zero, show tellsIn i ((d : Int) + 1) [] = [] from rfl, List.append_nil]; rfl
  intro j hj
  have hAj := hA j
  repeat (first|(apply w1;apply rfl;apply rfl)|(apply w2;apply rfl)|(apply w3;apply rfl;apply rfl)|apply w4|apply w5|apply w6|apply w7|(apply w8;apply rfl)|(apply w9;apply rfl)|apply wa|apply wd|apply we|apply wb|apply wc|apply wf|apply wg|apply wh|(apply wi;apply rfl)|apply wj|apply wk|apply wl|apply wm|apply wn|(apply s_load tk;apply rfl;apply rfl;(assumption);apply rfl;apply rfl)|(apply s_ept tk;apply rfl;apply rfl;apply rfl;apply rfl))
  refine s_index tk rfl rfl rfl rfl (by omega) hget rfl ?_
  repeat (first|(apply w1;apply rfl;apply rfl)|(apply w2;apply rfl)|(apply w3;apply rfl;apply rfl)|apply w4|apply w5|apply w6|apply w7|(apply w8;apply rfl)|(apply w9;apply rfl)|apply wa|apply wd|apply we|apply wb|apply wc|apply wf|apply wg|apply wh|(apply wi;apply rfl)|apply wj|apply wk|apply wl|apply wm|apply wn|(apply s_load tk;apply rfl;apply rfl;(assumption);apply rfl;apply rfl)|(apply s_ept tk;apply rfl;apply rfl;apply rfl;apply rfl))
  refine aw_cond rfl (fun c2 => ?_) (fun c2 => ?_)
  · have c2' : j < n.ents.length := by have := of_decide_eq_true c2; omega
    have hts := tellsIn_step i ((d : Int) + 1) n.ents j c2'
    repeat (first|(apply w1;apply rfl;apply rfl)|(apply w2;apply rfl)|(apply w3;apply rfl;apply rfl)|apply w4|apply w5|apply w6|apply w7|(apply w8;apply rfl)|(apply w9;apply rfl)|apply wa|apply wd|apply we|apply wb|apply wc|apply wf|apply wg|apply wh|(apply wi;apply rfl)|apply wj|apply wk|apply wl|apply wm|apply wn|(apply s_load tk;apply rfl;apply rfl;(assumption);apply rfl;apply rfl)|(apply s_ept tk;apply rfl;apply rfl;apply rfl;apply rfl))
    refine s_index tk rfl rfl rfl rfl (by omega) hget rfl ?_
    repeat (first|(apply w1;apply rfl;apply rfl)|(apply w2;apply rfl)|(apply w3;apply rfl;apply rfl)|apply w4|apply w5|apply w6|apply w7|(apply w8;apply rfl)|(apply w9;apply rfl)|apply wa|apply wd|apply we|apply wb|apply wc|apply wf|apply wg|apply wh|(apply wi;apply rfl)|apply wj|apply wk|apply wl|apply wm|apply wn|(apply s_load tk;apply rfl;apply rfl;(assumption);apply rfl;apply rfl)|(apply s_ept tk;apply rfl;apply rfl;apply rfl;apply rfl))
    refine s_index tk rfl rfl rfl rfl (by omega) (kids_get n.ents j c2') rfl ?_
    repeat (first|(apply w1;apply rfl;apply rfl)|(apply w2;apply rfl)|(apply w3;apply rfl;apply rfl)|apply w4|apply w5|apply w6|apply w7|(apply w8;apply rfl)|(apply w9;apply rfl)|apply wa|apply wd|apply we|apply wb|apply wc|apply wf|apply wg|apply wh|(apply wi;apply rfl)|apply wj|apply wk|apply wl|apply wm|apply wn|(apply s_load tk;apply rfl;apply rfl;(assumption);apply rfl;apply rfl)|(apply s_ept tk;apply rfl;apply rfl;apply rfl;apply rfl))
    refine aw_cond rfl (fun e => ?_) (fun e => ?_)
    · rw [if_pos (of_decide_eq_true e)] at hts
      repeat (first|(apply w1;apply rfl;apply rfl)|(apply w2;apply rfl)|(apply w3;apply rfl;apply rfl)|apply w4|apply w5|apply w6|apply w7|(apply w8;apply rfl)|(apply w9;apply rfl)|apply wa|apply wd|apply we|apply wb|apply wc|apply wf|apply wg|apply wh|(apply wi;apply rfl)|apply wj|apply wk|apply wl|apply wm|apply wn|(apply s_load tk;apply rfl;apply rfl;(assumption);apply rfl;apply rfl)|(apply s_ept tk;apply rfl;apply rfl;apply rfl;apply rfl))
      refine s_add rfl rfl rfl (by omega) ?_
      repeat (first|(apply w1;apply rfl;apply rfl)|(apply w2;apply rfl)|(apply w3;apply rfl;apply rfl)|apply w4|apply w5|apply w6|apply w7|(apply w8;apply rfl)|(apply w9;apply rfl)|apply wa|apply wd|apply we|apply wb|apply wc|apply wf|apply wg|apply wh|(apply wi;apply rfl)|apply wj|apply wk|apply wl|apply wm|apply wn|(apply s_load tk;apply rfl;apply rfl;(assumption);apply rfl;apply rfl)|(apply s_ept tk;apply rfl;apply rfl;apply rfl;apply rfl))
      refine s_add rfl rfl rfl (by omega) ?_
      repeat (first|(apply w1;apply rfl;apply rfl)|(apply w2;apply rfl)|(apply w3;apply rfl;apply rfl)|apply w4|apply w5|apply w6|apply w7|(apply w8;apply rfl)|(apply w9;apply rfl)|apply wa|apply wd|apply we|apply wb|apply wc|apply wf|apply wg|apply wh|(apply wi;apply rfl)|apply wj|apply wk|apply wl|apply wm|apply wn|(apply s_load tk;apply rfl;apply rfl;(assumption);apply rfl;apply rfl)|(apply s_ept tk;apply rfl;apply rfl;apply rfl;apply rfl))
      refine ⟨j + 1, c2', by omega, Fr.sub_cons rfl (Fr.sub_cons rfl (Fr.sub_cons ?_ (Fr.sub_cons rfl (Fr.sub_cons rfl (Fr.sub_nil _))))), AHeap.sub_refl _⟩
      rw [hts, ← List.append_assoc, List.length_append (bs := [(d : Int) + 1])]; rfl
    · rw [if_neg (of_decide_eq_false e), List.append_nil] at hts
      repeat (first|(apply w1;apply rfl;apply rfl)|(apply w2;apply rfl)|(apply w3;apply rfl;apply rfl)|apply w4|apply w5|apply w6|apply w7|(apply w8;apply rfl)|(apply w9;apply rfl)|apply wa|apply wd|apply we|apply wb|apply wc|apply wf|apply wg|apply wh|(apply wi;apply rfl)|apply wj|apply wk|apply wl|apply wm|apply wn|(apply s_load tk;apply rfl;apply rfl;(assumption);apply rfl;apply rfl)|(apply s_ept tk;apply rfl;apply rfl;apply rfl;apply rfl))
      refine s_add rfl rfl rfl (by omega) ?_
      repeat (first|(apply w1;apply rfl;apply rfl)|(apply w2;apply rfl)|(apply w3;apply rfl;apply rfl)|apply w4|apply w5|apply w6|apply w7|(apply w8;apply rfl)|(apply w9;apply rfl)|apply wa|apply wd|apply we|apply wb|apply wc|apply wf|apply wg|apply wh|(apply wi;apply rfl)|apply wj|apply wk|apply wl|apply wm|apply wn|(apply s_load tk;apply rfl;apply rfl;(assumption);apply rfl;apply rfl)|(apply s_ept tk;apply rfl;apply rfl;apply rfl;apply rfl))
      refine ⟨j + 1, c2', by omega, Fr.sub_cons rfl (Fr.sub_cons rfl (Fr.sub_cons ?_ (Fr.sub_cons rfl (Fr.sub_cons rfl (Fr.sub_nil _))))), AHeap.sub_refl _⟩
      rw [hts]; rfl
  · have : j = n.ents.length := by have := of_decide_eq_false c2; omega
    subst this
    rw [List.take_length, ← hstep]
    repeat (first|(apply w1;apply rfl;apply rfl)|(apply w2;apply rfl)|(apply w3;apply rfl;apply rfl)|apply w4|apply w5|apply w6|apply w7|(apply w8;apply rfl)|(apply w9;apply rfl)|apply wa|apply wd|apply we|apply wb|apply wc|apply wf|apply wg|apply wh|(apply wi;apply rfl)|apply wj|apply wk|apply wl|apply wm|apply wn|(apply s_load tk;apply rfl;apply rfl;(assumption);apply rfl;apply rfl)|(apply s_ept tk;apply rfl;apply rfl;apply rfl;apply rfl))
    refine s_add rfl rfl rfl (by omega) ?_
    repeat (first|(apply w1;apply rfl;apply rfl)|(apply w2;apply rfl)|(apply w3;apply rfl;apply rfl)|apply w4|apply w5|apply w6|apply w7|(apply w8;apply rfl)|(apply w9;apply rfl)|apply wa|apply wd|apply we|apply wb|apply wc|apply wf|apply wg|apply wh|(apply wi;apply rfl)|apply wj|apply wk|apply wl|apply wm|apply wn|(apply s_load tk;apply rfl;apply rfl;(assumption);apply rfl;apply rfl)|(apply s_ept tk;apply rfl;apply rfl;apply rfl;apply rfl))
    exact ⟨d + 1, c', by omega, Fr.sub_cons rfl (Fr.sub_cons rfl (Fr.sub_cons rfl (Fr.sub_cons rfl (Fr.sub_nil _)))), AHeap.sub_refl _⟩
theorem rparent_c {l : List Node} (hs : smallL l) {i : Int} {H : AHeap} {K : AVal → AHeap → Prop} (hK : K (.i ((rtells l i l.length).headD 0)) H) : ACalls Try.prog 127 [.agg (encT l), .i i] H K := by
  refine acalls_body Try.func127 rfl rfl rfl ?_
  have ll := ms_len l
  obtain ⟨hl, hsm⟩ := hs
  repeat (first|apply w6|apply w7)
  refine s_box rfl rfl rfl (fun b hb => ?_)
  have hsub : H.sub (H.put b (.cells (encT l))) := sub_new hb (AHeap.sub_refl _)
  have hrd : Rd (H.put b (.cells (encT l))) b (encT l) := .inl (put_same _ _ _)
  generalize H.put b (.cells (encT l)) = X at hsub hrd ⊢
  have hpre : ∀ m d : Nat, d ≤ m → ∃ z, rtells l i m = rtells l i d ++ z := by
    intro m
    induction m with
    | zero => intro d h; exact ⟨[], by rw [show d = 0 by omega]; rfl⟩
    | succ m ih =>
      intro d h
      rcases Nat.lt_or_ge d (m + 1) with h1 | h1
      · obtain ⟨z, hz⟩ := ih d (by omega)
        exact ⟨z ++ tellsIn i ((m : Int) + 1) (l.getD m Node.zero).ents, by simp only [rtells, hz, List.append_assoc]⟩
      · exact ⟨[], by rw [show d = m + 1 by omega, List.append_nil]⟩
  repeat (first|(apply w1;apply rfl;apply rfl)|apply w4|apply w5|apply w6|apply w7|apply wb)
  refine aw_loop (fun d : Nat => d ≤ l.length ∧ rtells l i d = []) (fun d => [(1, .i i), (2, .ptr b 0), (5, .i d)]) (fun _ => X) (fun d => l.length - d) 0 ⟨Nat.zero_le _, rfl⟩ (Fr.sub_cons rfl (Fr.sub_cons rfl (Fr.sub_cons rfl (Fr.sub_nil _)))) (AHeap.sub_refl _) ?_
  rintro d ⟨hd, hr0⟩
  repeat (first|(apply w1;apply rfl;apply rfl)|apply w4|apply w5|apply w6|apply w7|(apply s_load tk;apply rfl;apply rfl;(assumption);apply rfl;apply rfl))
  refine aw_cond rfl (fun c => ?_) (fun c => ?_)
  case refine_2 =>
    have : d = l.length := by have := of_decide_eq_false c; omega
    rw [← this, hr0] at hK
    repeat (first|(apply w1;apply rfl;apply rfl)|apply w4|apply w5|apply w6|apply w7|apply wd|apply wc|apply wf|apply wh)
    exact rt1 rfl rfl (.refl _) hsub hK
  have c' : d < l.length := by have := of_decide_eq_true c; omega
  have hg : l.getD d Node.zero = l[d] := by rw [List.getD_eq_getElem?_getD, List.getElem?_eq_getElem c']; rfl
  have hstep : rtells l i (d + 1) = rtells l i d ++ tellsIn i ((d : Int) + 1) l[d].ents := by simp only [rtells, hg]
  have hesm := (hsm _ (List.getElem_mem c')).2
  have hget := ms_get l d c'
  generalize l[d] = n at hstep hesm hget
  rw [hr0, List.nil_append] at hstep
  have lk := kids_len n.ents
  repeat (first|(apply w1;apply rfl;apply rfl)|apply w4|apply w5|apply w6|apply w7|apply wa|apply wb)
  refine aw_loop (fun j : Nat => j ≤ n.ents.length ∧ tellsIn i ((d : Int) + 1) (n.ents.take j) = []) (fun j => [(1, .i i), (2, .ptr b 0), (5, .i d), (6, .i j)]) (fun _ => X) (fun j => n.ents.length - j) 0 ⟨Nat.zero_le _, rfl⟩
    (Fr.sub_cons rfl (Fr.sub_cons rfl (Fr.sub_cons rfl (Fr.sub_cons rfl (Fr.sub_nil _))))) (AHeap.sub_refl _) ?_
  rintro j ⟨hj, ht0⟩
  repeat (first|(apply w1;apply rfl;apply rfl)|apply w6|apply w7|(apply s_load tk;apply rfl;apply rfl;(assumption);apply rfl;apply rfl))
  refine s_index tk rfl rfl rfl rfl (by omega) hget rfl ?_
  repeat (first|(apply w1;apply rfl;apply rfl)|apply w4|apply w5|(apply s_ept tk;apply rfl;apply rfl;apply rfl;apply rfl))
  refine aw_cond rfl (fun c2 => ?_) (fun c2 => ?_)
  · have c2' : j < n.ents.length := by have := of_decide_eq_true c2; omega
    have hts := tellsIn_step i ((d : Int) + 1) n.ents j c2'
    rw [ht0, List.nil_append] at hts
    repeat (first|(apply w1;apply rfl;apply rfl)|apply w5|apply w6|apply w7|apply wa|apply wb|(apply s_load tk;apply rfl;apply rfl;(assumption);apply rfl;apply rfl))
    refine s_index tk rfl rfl rfl rfl (by omega) hget rfl ?_
    repeat (first|(apply w1;apply rfl;apply rfl)|(apply s_ept tk;apply rfl;apply rfl;apply rfl;apply rfl))
    refine s_index tk rfl rfl rfl rfl (by omega) (kids_get n.ents j c2') rfl ?_
    repeat (first|(apply w1;apply rfl;apply rfl)|apply w4|apply w5|(apply s_ept tk;apply rfl;apply rfl;apply rfl;apply rfl))
    refine aw_cond rfl (fun e => ?_) (fun e => ?_)
    · rw [if_pos (of_decide_eq_true e)] at hts
      have hsplit : tellsIn i ((d : Int) + 1) n.ents = tellsIn i ((d : Int) + 1) (n.ents.take (j + 1)) ++ tellsIn i ((d : Int) + 1) (n.ents.drop (j + 1)) := by
        conv => lhs; rw [← List.take_append_drop (j + 1) n.ents]
        simp only [tellsIn, List.filter_append, List.map_append]
      obtain ⟨z, hz⟩ := hpre l.length (d + 1) c'
      rw [hz, hstep, hsplit, hts] at hK
      repeat (first|(apply w1;apply rfl;apply rfl)|apply w6|apply w7)
      refine s_add rfl rfl rfl (by omega) ?_
      repeat (first|(apply w1;apply rfl;apply rfl)|apply w4|apply w5|apply wd|apply we|apply wj)
      exact rt1 rfl rfl (.refl _) hsub hK
    · rw [if_neg (of_decide_eq_false e)] at hts
      repeat (first|(apply w1;apply rfl;apply rfl)|apply w5|apply w7|apply wa|apply wg)
      refine s_add rfl rfl rfl (by omega) ?_
      repeat (first|(apply w1;apply rfl;apply rfl)|apply w4|apply w5)
      exact ⟨j + 1, ⟨c2', hts⟩, by omega, Fr.sub_cons rfl (Fr.sub_cons rfl (Fr.sub_cons rfl (Fr.sub_cons rfl (Fr.sub_nil _)))), AHeap.sub_refl _⟩
  · have : j = n.ents.length := by have := of_decide_eq_false c2; omega
    subst this
    rw [List.take_length] at ht0
    repeat (first|(apply w1;apply rfl;apply rfl)|apply w5|apply w7|apply wc|apply wf|apply wg|apply wh)
    refine s_add rfl rfl rfl (by omega) ?_
    repeat (first|(apply w1;apply rfl;apply rfl)|apply w4|apply w5)
    exact ⟨d + 1, ⟨c', by rw [hstep, ht0]⟩, by omega, Fr.sub_cons rfl (Fr.sub_cons rfl (Fr.sub_cons rfl (Fr.sub_nil _))), AHeap.sub_refl _⟩
end Abs
end Go.Proofs.Ytpifnlodilcgkaa

set_option linter.unusedVariables false
namespace Go.Proofs.Ytpifnlodilcgkaa
namespace Abs
set_option maxRecDepth 10000
attribute [local irreducible] AOps AW AP ACalls thenQ inBlk noGoto

end Abs
end Go.Proofs.Ytpifnlodilcgkaa

set_option linter.unusedVariables false
namespace Go.Proofs.Ytpifnlodilcgkaa
namespace Abs
set_option maxRecDepth 10000
attribute [local irreducible] AOps AW AP ACalls thenQ inBlk noGoto

theorem rep_map (f : AVal → AVal) (m : Nat) (cs : List AVal) : (rep m cs).map f = rep m (cs.map f) := by
  simp only [rep, List.map_flatten, List.map_replicate]
theorem rnew_c {room : Int} {H : AHeap} {K : AVal → AHeap → Prop} (hK : K (.agg (encT (List.replicate (min (max room 1) 24).toNat Node.zero))) H) : ACalls Try.prog 53 [.i room] H K := by
  refine acalls_body Try.func53 rfl rfl rfl ?_
  repeat (first|apply w6|apply w7)
  refine s_alloc tk rfl rfl rfl (fun b2 h2 => ?_)
  repeat (first|(apply w1;apply rfl;apply rfl)|apply w4|apply w5|apply w6|apply w7)
  have fin : ∀ (r : Int), r = min (max room 1) 24 → ∀ {F : Fr}, F.get 2 = some (.ptr b2 0) → F.get 3 = some (.i r) → True := fun _ _ _ _ _ => trivial
  have tail : ∀ (r : Int) (b : Nat) (hb : (H.put b2 (.cells [.sl [] .full])) b = none), r = min (max room 1) 24 → b ≠ b2 ∧ H b = none := fun r b hb _ => put_none hb
  have hwk : ∀ (r : Int) (b : Nat), ((H.put b2 (.cells [.sl [] .full])).put b (.cells (rep r.toNat (encM Node.zero)))).sub ((H.put b2 (.cells [.sl [] .full])).put b (.cells (rep r.toNat [.i 0, .i 0, .i 0, .i 0, .s ⟨#[]⟩, .sl [] .full, .sl [] .full, .s ⟨#[]⟩]))) := fun r b =>
    AHeap.put_sub_wk (AHeap.sub_refl _) b (.cells (wk_agg (by rw [rep_map]; rfl)))
  have hflat : ∀ m : Nat, rep m (encM Node.zero) = ((List.replicate m Node.zero).map encM).flatten := fun m => by simp [rep]
  have hdel : ∀ (x b : Nat) (o : HObj), x ≠ b → ∀ Y : AHeap, ((Y.put b o).del b) x = Y x := fun x b o hx Y => by simp [AHeap.del, AHeap.put, hx]
  have hsubf : ∀ b : Nat, (b ≠ b2 ∧ H b = none) → ∀ o, H.sub (((H.put b2 (.cells [.sl [] .full])).put b o).del b) := fun b hb o x p hx => by
    have hxb : x ≠ b := fun e => by rw [e, hb.2] at hx; cases hx
    have hx2 : x ≠ b2 := fun e => by rw [e, h2] at hx; cases hx
    exact ⟨p, by rw [hdel _ _ _ hxb, put_ne hx2]; exact hx, .refl p⟩
  refine aw_cond rfl (fun c => ?_) (fun c => ?_)
  · have c' := of_decide_eq_true c
    have hr : (1 : Int) = min (max room 1) 24 := by omega
    repeat (first|(apply w1;apply rfl;apply rfl)|apply w4|apply w5|apply w6|apply w7|(apply w9;apply rfl)|apply wa)
    refine s_make tk rfl rfl rfl rfl rfl rfl (by decide) (by decide) (by decide) (fun b hb => ?_)
    refine AOps_sub ?_ (Fr.sub_refl _) (hwk 1 b)
    rw [hflat]
    refine aops_close (d := 10) (rows := (List.replicate (1 : Int).toNat Node.zero).map encM) (es := 8) rfl (put_same _ _ _) (by decide) (uni_ms _) rfl rfl (by decide) (by decide) (by rw [(uni_ms _).len, ms_len, List.length_replicate]; decide) ?_
    skip
    refine s_build tk rfl rfl rfl rfl rfl rfl ?_
    skip
    refine s_storew tk rfl rfl (by rw [hdel _ _ _ (Ne.symm (put_none hb).1), put_same]) rfl rfl rfl rfl ?_
    repeat (first|apply w4|apply w5|apply wd)
    rw [← hr] at hK
    exact rt1c rfl rfl (.inl (put_same _ _ _)) rfl rfl (.refl _) (sub_new h2 (hsubf b (put_none hb) _)) hK
  have c' := of_decide_eq_false c
  repeat (first|(apply w1;apply rfl;apply rfl)|apply w4|apply w5|apply w6|apply w7|apply wa)
  refine aw_cond rfl (fun c2 => ?_) (fun c2 => ?_)
  · have c2' := of_decide_eq_true c2
    have hr : (24 : Int) = min (max room 1) 24 := by omega
    repeat (first|(apply w1;apply rfl;apply rfl)|apply w4|apply w5|apply w6|apply w7)
    refine s_make tk rfl rfl rfl rfl rfl rfl (by decide) (by decide) (by decide) (fun b hb => ?_)
    refine AOps_sub ?_ (Fr.sub_refl _) (hwk 24 b)
    rw [hflat]
    refine aops_close (d := 10) (rows := (List.replicate (24 : Int).toNat Node.zero).map encM) (es := 8) rfl (put_same _ _ _) (by decide) (uni_ms _) rfl rfl (by decide) (by decide) (by rw [(uni_ms _).len, ms_len, List.length_replicate]; decide) ?_
    skip
    refine s_build tk rfl rfl rfl rfl rfl rfl ?_
    skip
    refine s_storew tk rfl rfl (by rw [hdel _ _ _ (Ne.symm (put_none hb).1), put_same]) rfl rfl rfl rfl ?_
    repeat (first|apply w4|apply w5|apply wd)
    rw [← hr] at hK
    exact rt1c rfl rfl (.inl (put_same _ _ _)) rfl rfl (.refl _) (sub_new h2 (hsubf b (put_none hb) _)) hK
  · have c2' := of_decide_eq_false c2
    have hr : room = min (max room 1) 24 := by omega
    repeat (first|(apply w1;apply rfl;apply rfl)|apply w5|apply w6|apply w7|apply wa)
    refine s_make tk rfl rfl rfl rfl rfl rfl (by omega) (by omega) (by omega) (fun b hb => ?_)
    refine AOps_sub ?_ (Fr.sub_refl _) (hwk room b)
    rw [hflat]
    refine aops_close (d := 10) (rows := (List.replicate room.toNat Node.zero).map encM) (es := 8) rfl (put_same _ _ _) (by decide) (uni_ms _) (by simp) (by rw [List.drop_zero]; exact List.take_of_length_le (by rw [(uni_ms _).len, ms_len, List.length_replicate]; exact Nat.le_refl _)) (by omega) (Nat.le_refl _)
      (by rw [(uni_ms _).len, ms_len, List.length_replicate]; omega) ?_
    skip
    refine s_build tk rfl rfl rfl rfl rfl rfl ?_
    skip
    refine s_storew tk rfl rfl (by rw [hdel _ _ _ (Ne.symm (put_none hb).1), put_same]) rfl rfl rfl rfl ?_
    repeat (first|apply w4|apply w5|apply wd)
    rw [← hr] at hK
    exact rt1c rfl rfl (.inl (put_same _ _ _)) rfl rfl (.refl _) (sub_new h2 (hsubf b (put_none hb) _)) hK

end Abs
end Go.Proofs.Ytpifnlodilcgkaa

set_option linter.unusedVariables false
namespace Go.Proofs.Ytpifnlodilcgkaa
namespace Abs
set_option maxRecDepth 10000
attribute [local irreducible] AOps AW AP ACalls thenQ inBlk noGoto

theorem not_dec {p : Prop} [Decidable p] (h : (!decide p) = true) : decide p = false := by simpa using h
theorem dec_not {p : Prop} [Decidable p] (h : (!decide p) = false) : decide p = true := by simpa using h
set_option maxHeartbeats 1000000 in
theorem rsame_c {a b : Node} (ha : a.nlen) {H : AHeap} {K : AVal → AHeap → Prop} (hK : K (.b (a.same b)) H) : ACalls Try.prog 33 [.agg (encM a), .agg (encM b)] H K := by
  refine acalls_body Try.func33 rfl rfl rfl ?_
  have ha1 := ha.1
  have lna := names_len a.ents
  have lnb := names_len b.ents
  have lka := kids_len a.ents
  have lkb := kids_len b.ents
  repeat (first|apply w6|apply w7)
  refine s_box rfl rfl rfl (fun b2 h2 => ?_)
  skip
  refine s_box rfl rfl rfl (fun b3 h3 => ?_)
  obtain ⟨n3, h3'⟩ := put_none h3
  have hr2 : Rd ((H.put b2 (.cells (encM a))).put b3 (.cells (encM b))) b2 (encM a) := .inl (by rw [put_ne (Ne.symm n3), put_same])
  have hr3 : Rd ((H.put b2 (.cells (encM a))).put b3 (.cells (encM b))) b3 (encM b) := .inl (put_same _ _ _)
  have hsub : H.sub ((H.put b2 (.cells (encM a))).put b3 (.cells (encM b))) := sub_new h3' (sub_new h2 (AHeap.sub_refl _))
  generalize ((H.put b2 (.cells (encM a))).put b3 (.cells (encM b))) = X at hr2 hr3 hsub ⊢
  have hfalse : a.same b = false → K (.b false) H := fun h => by rw [h] at hK; exact hK
  repeat (first|(apply w1;apply rfl;apply rfl)|apply w4|apply w5|apply w6|apply w7|(apply s_load tk;apply rfl;apply rfl;(assumption);apply rfl;apply rfl))
  refine s_gsplit rfl rfl (fun g => ?_) (fun g1 => ?_)
  · repeat (first|(apply w1;apply rfl;apply rfl)|(apply w3;apply rfl;apply rfl)|apply w4|apply w5|apply w6|apply w7|(apply w8;apply rfl)|apply wd|apply we)
    exact rt1 rfl rfl (.refl _) hsub (hfalse (by simp only [Node.same, not_dec g, Bool.false_and]))
  repeat (first|(apply w1;apply rfl;apply rfl)|(apply w2;apply rfl)|(apply s_load tk;apply rfl;apply rfl;(assumption);apply rfl;apply rfl))
  refine s_gsplit rfl rfl (fun g => ?_) (fun g2 => ?_)
  · repeat (first|(apply w1;apply rfl;apply rfl)|(apply w3;apply rfl;apply rfl)|apply w4|apply w5|apply w6|apply w7|(apply w8;apply rfl)|apply wd|apply we)
    exact rt1 rfl rfl (.refl _) hsub (hfalse (by simp only [Node.same, not_dec g, Bool.false_and, Bool.and_false]))
  repeat (first|(apply w1;apply rfl;apply rfl)|(apply w2;apply rfl)|(apply s_load tk;apply rfl;apply rfl;(assumption);apply rfl;apply rfl))
  refine s_gsplit rfl rfl (fun g => ?_) (fun g3 => ?_)
  · repeat (first|(apply w1;apply rfl;apply rfl)|(apply w3;apply rfl;apply rfl)|apply w4|apply w5|apply w6|apply w7|(apply w8;apply rfl)|apply wd|apply we)
    exact rt1 rfl rfl (.refl _) hsub (hfalse (by simp only [Node.same, not_dec g, Bool.false_and, Bool.and_false]))
  repeat (first|(apply w1;apply rfl;apply rfl)|(apply w2;apply rfl)|(apply s_load tk;apply rfl;apply rfl;(assumption);apply rfl;apply rfl))
  refine s_gsplit rfl rfl (fun g => ?_) (fun g4 => ?_)
  · repeat (first|(apply w1;apply rfl;apply rfl)|(apply w3;apply rfl;apply rfl)|apply w4|apply w5|apply w6|apply w7|(apply w8;apply rfl)|apply wd|apply we)
    exact rt1 rfl rfl (.refl _) hsub (hfalse (by simp only [Node.same, not_dec g, Bool.false_and, Bool.and_false]))
  repeat (first|(apply w1;apply rfl;apply rfl)|(apply w2;apply rfl)|(apply s_load tk;apply rfl;apply rfl;(assumption);apply rfl;apply rfl))
  refine s_gsplit rfl rfl (fun g => ?_) (fun g5 => ?_)
  · repeat (first|(apply w1;apply rfl;apply rfl)|(apply w3;apply rfl;apply rfl)|apply w4|apply w5|apply w6|apply w7|(apply w8;apply rfl)|apply wd|apply we)
    exact rt1 rfl rfl (.refl _) hsub (hfalse (by simp only [Node.same, not_dec g, Bool.false_and, Bool.and_false]))
  repeat (first|(apply w1;apply rfl;apply rfl)|(apply w2;apply rfl)|(apply s_load tk;apply rfl;apply rfl;(assumption);apply rfl;apply rfl))
  refine s_gsplit rfl rfl (fun g => ?_) (fun g6 => ?_)
  · repeat (first|(apply w1;apply rfl;apply rfl)|(apply w3;apply rfl;apply rfl)|apply w4|apply w5|apply w6|apply w7|(apply w8;apply rfl)|apply wd|apply we)
    exact rt1 rfl rfl (.refl _) hsub (hfalse (by simp only [Node.same, not_dec g, Bool.false_and, Bool.and_false]))
  repeat (first|(apply w1;apply rfl;apply rfl)|(apply w2;apply rfl)|apply w4|apply w5|(apply s_load tk;apply rfl;apply rfl;(assumption);apply rfl;apply rfl))
  refine aw_cond rfl (fun g => ?_) (fun g7 => ?_)
  · repeat (first|(apply w1;apply rfl;apply rfl)|apply w4|apply w5|apply w6|apply w7|apply wd|apply we)
    refine rt1 rfl rfl (.refl _) hsub (hfalse ?_)
    have : ¬ a.ents = b.ents := fun e => by rw [e] at g; simp at g
    simp only [Node.same, decide_eq_false this, Bool.and_false]
  have hlen : a.ents.length = b.ents.length := by
    have : ((encNames a.ents).length : Int) = (encNames b.ents).length := of_decide_eq_true (dec_not g7)
    omega
  have hsame : a.same b = decide (a.ents = b.ents) := by
    simp only [Node.same, dec_not g1, dec_not g2, dec_not g3, dec_not g4, dec_not g5, dec_not g6, Bool.true_and]
  rw [hsame] at hK hfalse
  clear hsame g1 g2 g3 g4 g5 g6 g7
  repeat (first|(apply w1;apply rfl;apply rfl)|apply w4|apply w5|apply w6|apply w7|apply wa|apply wb)
  refine aw_loop (fun k : Nat => k ≤ a.ents.length ∧ a.ents.take k = b.ents.take k) (fun k => [(2, .ptr b2 0), (3, .ptr b3 0), (5, .i k)]) (fun _ => X) (fun k => a.ents.length - k) 0 ⟨Nat.zero_le _, rfl⟩ (Fr.sub_cons rfl (Fr.sub_cons rfl (Fr.sub_cons rfl (Fr.sub_nil _)))) (AHeap.sub_refl _) ?_
  rintro k ⟨hk, hall⟩
  repeat (first|(apply w1;apply rfl;apply rfl)|apply w4|apply w5|apply w6|apply w7|(apply s_load tk;apply rfl;apply rfl;(assumption);apply rfl;apply rfl))
  refine aw_cond rfl (fun c => ?_) (fun c => ?_)
  case refine_2 =>
    have hke : k = a.ents.length := by have := of_decide_eq_false c; omega
    subst hke
    have : a.ents = b.ents := by rw [List.take_length, hlen, List.take_length] at hall; exact hall
    rw [decide_eq_true this] at hK
    repeat (first|(apply w1;apply rfl;apply rfl)|apply w4|apply w5|apply w6|apply w7|apply wd|apply wc|apply wf|apply wh)
    exact rt1 rfl rfl (.refl _) hsub hK
  have c' : k < a.ents.length := by have := of_decide_eq_true c; omega
  have c2 : k < b.ents.length := by omega
  repeat (first|apply w5|apply w6|apply wa|apply wb)
  refine aw_prot [b2, b3] (allc hr2 (allc hr3 (allc0 _))) ?_
  have ro2 := prot_get (bs := [b2, b3]) (by simp) hr2
  have ro3 := prot_get (bs := [b2, b3]) (by simp) hr3
  refine aw_plan mixed (.take 0 (.take 1 (.take 2 (.take 3 (.take 4 (.take 5 (.take 6 (.take 7 (.take 8 (.take 9 (.take 10 (.take 11 (.take 12 (.take 13 (.take 14 (.take 15 (.take 16 (.take 17 (.take 18 (.take 19 (.take 20 (.take 21 (.take 22 (.take 23 .done)))))))))))))))))))))))) (by kernel_rfl) ?_
  repeat (first|(apply d1;apply rfl;apply rfl;apply rfl;apply rfl)|(apply d_ro;apply rfl;apply rfl;apply rfl;apply rfl;(assumption);apply rfl;apply rfl))
  refine d_index rfl rfl rfl rfl rfl rfl (by omega) (names_get a.ents k c') rfl ?_
  repeat (first|(apply d1;apply rfl;apply rfl;apply rfl;apply rfl)|(apply d_ro;apply rfl;apply rfl;apply rfl;apply rfl;(assumption);apply rfl;apply rfl)|(apply d_ept;apply rfl;apply rfl;apply rfl;apply rfl;apply rfl;apply rfl))
  refine d_index rfl rfl rfl rfl rfl rfl (by omega) (names_get b.ents k c2) rfl ?_
  repeat (first|(apply d1;apply rfl;apply rfl;apply rfl;apply rfl)|(apply d_ept;apply rfl;apply rfl;apply rfl;apply rfl;apply rfl;apply rfl))
  refine d_split rfl rfl rfl (fun e1 => ?_) (fun e1 => ?_)
  · repeat (first|(apply d1;apply rfl;apply rfl;apply rfl;apply rfl)|(apply d2;apply rfl;apply rfl;apply rfl)|apply d3)
    refine prot_done ?_
    repeat (first|(apply w1;apply rfl;apply rfl)|apply w4|apply w5|apply w6|apply w7|(apply w8;apply rfl)|apply wd|apply we|apply wj)
    refine rt1 rfl rfl (.refl _) hsub (hfalse (decide_eq_false fun e => ?_))
    have := of_decide_eq_false (not_dec e1)
    exact this (by simp only [e])
  repeat (first|(apply d1;apply rfl;apply rfl;apply rfl;apply rfl)|(apply d_ro;apply rfl;apply rfl;apply rfl;apply rfl;(assumption);apply rfl;apply rfl))
  refine d_index rfl rfl rfl rfl rfl rfl (by omega) (kids_get a.ents k c') rfl ?_
  repeat (first|(apply d1;apply rfl;apply rfl;apply rfl;apply rfl)|(apply d_ro;apply rfl;apply rfl;apply rfl;apply rfl;(assumption);apply rfl;apply rfl)|(apply d_ept;apply rfl;apply rfl;apply rfl;apply rfl;apply rfl;apply rfl))
  refine d_index rfl rfl rfl rfl rfl rfl (by omega) (kids_get b.ents k c2) rfl ?_
  repeat (first|(apply d1;apply rfl;apply rfl;apply rfl;apply rfl)|apply d3|(apply d_ept;apply rfl;apply rfl;apply rfl;apply rfl;apply rfl;apply rfl))
  refine prot_done ?_
  repeat (apply w5)
  refine aw_cond rfl (fun e2 => ?_) (fun e2 => ?_)
  · repeat (first|(apply w1;apply rfl;apply rfl)|apply w4|apply w5|apply w6|apply w7|apply wd|apply we|apply wj)
    refine rt1 rfl rfl (.refl _) hsub (hfalse (decide_eq_false fun e => ?_))
    have := of_decide_eq_false (not_dec e2)
    exact this (by simp only [e])
  · have he : a.ents[k] = b.ents[k] := by
      have h1 : a.ents[k].name = b.ents[k].name := of_decide_eq_true (dec_not e1)
      have h2 : a.ents[k].node = b.ents[k].node := of_decide_eq_true (dec_not e2)
      cases hx : a.ents[k]; cases hy : b.ents[k]
      simp_all
    repeat (first|(apply w1;apply rfl;apply rfl)|apply w5|apply w7|apply wa|apply wg)
    refine s_add rfl rfl rfl (by omega) ?_
    repeat (first|(apply w1;apply rfl;apply rfl)|apply w4|apply w5)
    refine ⟨k + 1, ⟨c', ?_⟩, by omega, Fr.sub_cons rfl (Fr.sub_cons rfl (Fr.sub_cons rfl (Fr.sub_nil _))), AHeap.sub_refl _⟩
    rw [List.take_add_one, List.take_add_one, List.getElem?_eq_getElem c', List.getElem?_eq_getElem c2, hall, he]
end Abs
end Go.Proofs.Ytpifnlodilcgkaa

set_option linter.unusedVariables false
namespace Go.Proofs.Ytpifnlodilcgkaa
namespace Abs
set_option maxRecDepth 10000
attribute [local irreducible] AOps AW AP ACalls thenQ inBlk noGoto

def rparent (l : List Node) (i : Int) : Int := (rtells l i l.length).headD 0
def rlinks (l : List Node) (i : Int) : Int := (rtells l i l.length).length
def rrooted (l : List Node) : Nat → Int → Bool
  | 0, _ => false
  | n + 1, i => if i = 1 then true else rrooted l n (rparent l i)
theorem rrooted_c {l : List Node} (hs : smallL l) {i : Int} {H : AHeap} {K : AVal → AHeap → Prop} (hK : K (.b (rrooted l 24 i)) H) : ACalls Try.prog 98 [.agg (encT l), .i i] H K := by
  refine acalls_body Try.func98 rfl rfl rfl ?_
  repeat (first|(apply w1;apply rfl;apply rfl)|(apply w2;apply rfl)|(apply w3;apply rfl;apply rfl)|apply w4|apply w5|apply w6|apply w7|(apply w8;apply rfl)|(apply w9;apply rfl)|apply wa|apply wd|apply we|apply wb|apply wc|apply wf|apply wg|apply wh|(apply wi;apply rfl)|apply wj|apply wk|apply wl|apply wm|apply wn)
  refine s_box rfl rfl rfl (fun b hb => ?_)
  have hsub : H.sub (H.put b (.cells (encT l))) := sub_new hb (AHeap.sub_refl _)
  have hrd : Rd (H.put b (.cells (encT l))) b (encT l) := .inl (put_same _ _ _)
  generalize H.put b (.cells (encT l)) = X at hsub hrd ⊢
  repeat (first|(apply w1;apply rfl;apply rfl)|(apply w2;apply rfl)|(apply w3;apply rfl;apply rfl)|apply w4|apply w5|apply w6|apply w7|(apply w8;apply rfl)|(apply w9;apply rfl)|apply wa|apply wd|apply we|apply wb|apply wc|apply wf|apply wg|apply wh|(apply wi;apply rfl)|apply wj|apply wk|apply wl|apply wm|apply wn)
  refine aw_loop (fun s : Nat × Int => s.1 ≤ 24 ∧ rrooted l 24 i = rrooted l (24 - s.1) s.2) (fun s => [(1, .i s.2), (2, .ptr b 0), (5, .i s.1)]) (fun _ => X) (fun s => 24 - s.1) (0, i) ⟨by omega, rfl⟩ (Fr.sub_cons rfl (Fr.sub_cons rfl (Fr.sub_cons rfl (Fr.sub_nil _)))) (AHeap.sub_refl _) ?_
  rintro ⟨k, x⟩ ⟨hk, hr⟩
  simp only at hk hr
  repeat (first|(apply w1;apply rfl;apply rfl)|(apply w2;apply rfl)|(apply w3;apply rfl;apply rfl)|apply w4|apply w5|apply w6|apply w7|(apply w8;apply rfl)|(apply w9;apply rfl)|apply wa|apply wd|apply we|apply wb|apply wc|apply wf|apply wg|apply wh|(apply wi;apply rfl)|apply wj|apply wk|apply wl|apply wm|apply wn)
  refine aw_cond rfl (fun c => ?_) (fun c => ?_)
  · have c' : k < 24 := by have := of_decide_eq_true c; omega
    have hst : rrooted l (24 - k) x = if x = 1 then true else rrooted l (24 - (k + 1)) (rparent l x) := by
      rw [show 24 - k = (24 - (k + 1)) + 1 by omega]; rfl
    repeat (first|(apply w1;apply rfl;apply rfl)|(apply w2;apply rfl)|(apply w3;apply rfl;apply rfl)|apply w4|apply w5|apply w6|apply w7|(apply w8;apply rfl)|(apply w9;apply rfl)|apply wa|apply wd|apply we|apply wb|apply wc|apply wf|apply wg|apply wh|(apply wi;apply rfl)|apply wj|apply wk|apply wl|apply wm|apply wn)
    refine aw_cond rfl (fun e => ?_) (fun e => ?_)
    · rw [hr, hst, if_pos (of_decide_eq_true e)] at hK
      repeat (first|(apply w1;apply rfl;apply rfl)|(apply w2;apply rfl)|(apply w3;apply rfl;apply rfl)|apply w4|apply w5|apply w6|apply w7|(apply w8;apply rfl)|(apply w9;apply rfl)|apply wa|apply wd|apply we|apply wb|apply wc|apply wf|apply wg|apply wh|(apply wi;apply rfl)|apply wj|apply wk|apply wl|apply wm|apply wn)
      exact rt1 rfl rfl (.refl _) hsub hK
    · rw [if_neg (of_decide_eq_false e)] at hst
      repeat (first|(apply w1;apply rfl;apply rfl)|(apply w2;apply rfl)|(apply w3;apply rfl;apply rfl)|apply w4|apply w5|apply w6|apply w7|(apply w8;apply rfl)|(apply w9;apply rfl)|apply wa|apply wd|apply we|apply wb|apply wc|apply wf|apply wg|apply wh|(apply wi;apply rfl)|apply wj|apply wk|apply wl|apply wm|apply wn)
      refine s_loadw tk rfl rfl hrd rfl rfl ?_
      repeat (first|(apply w1;apply rfl;apply rfl)|(apply w2;apply rfl)|(apply w3;apply rfl;apply rfl)|apply w4|apply w5|apply w6|apply w7|(apply w8;apply rfl)|(apply w9;apply rfl)|apply wa|apply wd|apply we|apply wb|apply wc|apply wf|apply wg|apply wh|(apply wi;apply rfl)|apply wj|apply wk|apply wl|apply wm|apply wn)
      refine s_call rfl rfl fk127 ?_
      refine rparent_c hs ?_
      repeat (first|(apply w1;apply rfl;apply rfl)|(apply w2;apply rfl)|(apply w3;apply rfl;apply rfl)|apply w4|apply w5|apply w6|apply w7|(apply w8;apply rfl)|(apply w9;apply rfl)|apply wa|apply wd|apply we|apply wb|apply wc|apply wf|apply wg|apply wh|(apply wi;apply rfl)|apply wj|apply wk|apply wl|apply wm|apply wn)
      refine s_add rfl rfl rfl (by omega) ?_
      repeat (first|(apply w1;apply rfl;apply rfl)|(apply w2;apply rfl)|(apply w3;apply rfl;apply rfl)|apply w4|apply w5|apply w6|apply w7|(apply w8;apply rfl)|(apply w9;apply rfl)|apply wa|apply wd|apply we|apply wb|apply wc|apply wf|apply wg|apply wh|(apply wi;apply rfl)|apply wj|apply wk|apply wl|apply wm|apply wn)
      exact ⟨(k + 1, rparent l x), ⟨c', by rw [hr, hst]⟩, by simp only; omega, Fr.sub_cons rfl (Fr.sub_cons rfl (Fr.sub_cons rfl (Fr.sub_nil _))), AHeap.sub_refl _⟩
  · have : k = 24 := by have := of_decide_eq_false c; omega
    subst this
    rw [hr] at hK
    repeat (first|(apply w1;apply rfl;apply rfl)|(apply w2;apply rfl)|(apply w3;apply rfl;apply rfl)|apply w4|apply w5|apply w6|apply w7|(apply w8;apply rfl)|(apply w9;apply rfl)|apply wa|apply wd|apply we|apply wb|apply wc|apply wf|apply wg|apply wh|(apply wi;apply rfl)|apply wj|apply wk|apply wl|apply wm|apply wn)
    exact rt1 rfl rfl (.refl _) hsub hK
theorem rinl_c {l : List Int} {o : Own} {n : Int} {H : AHeap} {K : AVal → AHeap → Prop} (hl : l.length ≤ 9223372036854775807) (hK : K (.b (l.contains n)) H) : ACalls Try.prog 99 [.sl (encInts l) o, .i n] H K := by
  refine acalls_body Try.func99 rfl rfl rfl ?_
  have ll := ints_len l
  repeat (first|(apply w1;apply rfl;apply rfl)|(apply w2;apply rfl)|(apply w3;apply rfl;apply rfl)|apply w4|apply w5|apply w6|apply w7|(apply w8;apply rfl)|(apply w9;apply rfl)|apply wa|apply wd|apply we|apply wb|apply wc|apply wf|apply wg|apply wh|(apply wi;apply rfl)|apply wj|apply wk|apply wl|apply wm|apply wn)
  refine aw_loop (fun k : Nat => k ≤ l.length ∧ ∀ j (h : j < l.length), j < k → l[j] ≠ n) (fun k => [(0, .sl (encInts l) o), (1, .i n), (5, .i k)]) (fun _ => H) (fun k => l.length - k) 0 ⟨Nat.zero_le _, fun j _ h => absurd h (Nat.not_lt_zero _)⟩
    (Fr.sub_cons rfl (Fr.sub_cons rfl (Fr.sub_cons rfl (Fr.sub_nil _)))) (AHeap.sub_refl _) ?_
  intro k ⟨hk, hall⟩
  repeat (first|(apply w1;apply rfl;apply rfl)|(apply w2;apply rfl)|(apply w3;apply rfl;apply rfl)|apply w4|apply w5|apply w6|apply w7|(apply w8;apply rfl)|(apply w9;apply rfl)|apply wa|apply wd|apply we|apply wb|apply wc|apply wf|apply wg|apply wh|(apply wi;apply rfl)|apply wj|apply wk|apply wl|apply wm|apply wn)
  refine aw_cond rfl (fun g => ?_) (fun g => ?_)
  · have g' : k < l.length := by have := of_decide_eq_true g; omega
    repeat (first|(apply w1;apply rfl;apply rfl)|(apply w2;apply rfl)|(apply w3;apply rfl;apply rfl)|apply w4|apply w5|apply w6|apply w7|(apply w8;apply rfl)|(apply w9;apply rfl)|apply wa|apply wd|apply we|apply wb|apply wc|apply wf|apply wg|apply wh|(apply wi;apply rfl)|apply wj|apply wk|apply wl|apply wm|apply wn)
    refine s_index tk rfl rfl rfl rfl (by omega) (show (encInts l)[(k : Int).toNat]? = some [.i l[k]] by simp [encInts, g']) rfl ?_
    repeat (first|(apply w1;apply rfl;apply rfl)|(apply w2;apply rfl)|(apply w3;apply rfl;apply rfl)|apply w4|apply w5|apply w6|apply w7|(apply w8;apply rfl)|(apply w9;apply rfl)|apply wa|apply wd|apply we|apply wb|apply wc|apply wf|apply wg|apply wh|(apply wi;apply rfl)|apply wj|apply wk|apply wl|apply wm|apply wn|(apply s_load tk;apply rfl;apply rfl;(assumption);apply rfl;apply rfl)|(apply s_ept tk;apply rfl;apply rfl;apply rfl;apply rfl))
    refine aw_cond rfl (fun e => ?_) (fun e => ?_)
    · have he : l[k] = n := of_decide_eq_true e
      have hc : l.contains n = true := by rw [List.contains_iff_mem, ← he]; exact List.getElem_mem _
      rw [hc] at hK
      repeat (first|(apply w1;apply rfl;apply rfl)|(apply w2;apply rfl)|(apply w3;apply rfl;apply rfl)|apply w4|apply w5|apply w6|apply w7|(apply w8;apply rfl)|(apply w9;apply rfl)|apply wa|apply wd|apply we|apply wb|apply wc|apply wf|apply wg|apply wh|(apply wi;apply rfl)|apply wj|apply wk|apply wl|apply wm|apply wn)
      exact rt1 rfl rfl (.refl _) (AHeap.sub_refl _) hK
    · have he : ¬ l[k] = n := of_decide_eq_false e
      repeat (first|(apply w1;apply rfl;apply rfl)|(apply w2;apply rfl)|(apply w3;apply rfl;apply rfl)|apply w4|apply w5|apply w6|apply w7|(apply w8;apply rfl)|(apply w9;apply rfl)|apply wa|apply wd|apply we|apply wb|apply wc|apply wf|apply wg|apply wh|(apply wi;apply rfl)|apply wj|apply wk|apply wl|apply wm|apply wn)
      refine s_add rfl rfl rfl (by omega) ?_
      repeat (first|(apply w1;apply rfl;apply rfl)|(apply w2;apply rfl)|(apply w3;apply rfl;apply rfl)|apply w4|apply w5|apply w6|apply w7|(apply w8;apply rfl)|(apply w9;apply rfl)|apply wa|apply wd|apply we|apply wb|apply wc|apply wf|apply wg|apply wh|(apply wi;apply rfl)|apply wj|apply wk|apply wl|apply wm|apply wn)
      refine ⟨k + 1, ⟨g', fun j hj hjk => ?_⟩, by omega, Fr.sub_cons rfl (Fr.sub_cons rfl (Fr.sub_cons rfl (Fr.sub_nil _))), AHeap.sub_refl _⟩
      rcases Nat.lt_or_ge j k with h | h
      · exact hall j hj h
      · have : j = k := by omega
        subst this; exact he
  · have hke : k = l.length := by have := of_decide_eq_false g; omega
    subst hke
    have hc : l.contains n = false := Bool.eq_false_iff.2 fun h => by
      rw [List.contains_iff_mem] at h
      obtain ⟨j, hj, e⟩ := List.getElem_of_mem h
      exact hall j hj hj e
    rw [hc] at hK
    repeat (first|(apply w1;apply rfl;apply rfl)|(apply w2;apply rfl)|(apply w3;apply rfl;apply rfl)|apply w4|apply w5|apply w6|apply w7|(apply w8;apply rfl)|(apply w9;apply rfl)|apply wa|apply wd|apply we|apply wb|apply wc|apply wf|apply wg|apply wh|(apply wi;apply rfl)|apply wj|apply wk|apply wl|apply wm|apply wn)
    exact rt1 rfl rfl (.refl _) (AHeap.sub_refl _) hK

end Abs
end Go.Proofs.Ytpifnlodilcgkaa
