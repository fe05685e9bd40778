import Derived.Test.YtmokoofibnoojaaQ4
import Derived.Test.YtmokoofibnoojaaT4
set_option linter.unusedVariables false
namespace Go.Proofs.Ytmokoofibnoojaa
namespace Abs
set_option maxRecDepth 10000
attribute [local irreducible] AOps AW ACalls thenQ inBlk noGoto

def rtells (l : List Node) (i : Int) : Nat → List Int
  | 0 => []
  | k + 1 => rtells l i k ++ tellsIn i ((k : Int) + 1) (l.getD k Node.zero).ents
def smallL (l : List Node) : Prop := l.length ≤ 1000 ∧ ∀ n ∈ l, n.small
theorem rtells_len {l : List Node} (h : ∀ n ∈ l, n.small) (i : Int) : ∀ k : Nat, (rtells l i k).length ≤ k * 1073741824
  | 0 => by show (0 : Nat) ≤ _; exact Nat.zero_le _
  | k + 1 => by
    have ih := rtells_len h i k
    have h2 : (l.getD k Node.zero).ents.length ≤ 1073741824 := by
      rw [List.getD_eq_getElem?_getD]
      rcases Nat.lt_or_ge k l.length with hk | hk
      · rw [List.getElem?_eq_getElem hk]; exact (h _ (List.getElem_mem hk)).2
      · rw [List.getElem?_eq_none hk]; exact Nat.zero_le _
    have h3 := tellsIn_len i ((k : Int) + 1) (l.getD k Node.zero).ents
    simp only [rtells]
    rw [List.length_append]
    omega
theorem tellsIn_step (i d : Int) (es : List Ent) (j : Nat) (h : j < es.length) : tellsIn i d (es.take (j + 1)) = tellsIn i d (es.take j) ++ if es[j].node = i then [d] else [] := by
  rw [List.take_add_one, List.getElem?_eq_getElem h]
  simp only [tellsIn, List.filter_append, List.map_append]
  congr 1
  by_cases h : es[j].node = i <;> simp [h]
theorem rparent_c {l : List Node} (hs : smallL l) {i : Int} {H : AHeap} {K : AVal → AHeap → Prop} (hK : K (.i ((rtells l i l.length).headD 0)) H) : ACalls Try.prog 92 [.agg (encT l), .i i] H K := by
  refine acalls_body Try.func92 rfl rfl rfl ?_
  have ll := ms_len l
  obtain ⟨hl, hsm⟩ := hs
  repeat (first|(apply w1;apply rfl;apply rfl)|(apply w2;apply rfl)|(apply w3;apply rfl;apply rfl)|apply w4|apply w5|apply w6|apply w7|(apply w8;apply rfl)|(apply w9;apply rfl)|apply wa|apply wd|apply we|apply wb|apply wc|apply wf|apply wg|apply wh|(apply wi;apply rfl)|apply wj|apply wk|apply wl|apply wm|apply wn)
  refine s_box rfl rfl rfl (fun b hb => ?_)
  have hsub : H.sub (H.put b (.cells (encT l))) := sub_new hb (AHeap.sub_refl _)
  have hrd : Rd (H.put b (.cells (encT l))) b (encT l) := .inl (put_same _ _ _)
  generalize H.put b (.cells (encT l)) = X at hsub hrd ⊢
  have hpre : ∀ m d : Nat, d ≤ m → ∃ z, rtells l i m = rtells l i d ++ z := by
    intro m
    induction m with
    | zero => intro d h; exact ⟨[], by rw [show d = 0 by omega]; rfl⟩
    | succ m ih =>
      intro d h
      rcases Nat.lt_or_ge d (m + 1) with h1 | h1
      · obtain ⟨z, hz⟩ := ih d (by omega)
        exact ⟨z ++ tellsIn i ((m : Int) + 1) (l.getD m Node.zero).ents, by simp only [rtells, hz, List.append_assoc]⟩
      · exact ⟨[], by rw [show d = m + 1 by omega, List.append_nil]⟩
  repeat (first|(apply w1;apply rfl;apply rfl)|(apply w2;apply rfl)|(apply w3;apply rfl;apply rfl)|apply w4|apply w5|apply w6|apply w7|(apply w8;apply rfl)|(apply w9;apply rfl)|apply wa|apply wd|apply we|apply wb|apply wc|apply wf|apply wg|apply wh|(apply wi;apply rfl)|apply wj|apply wk|apply wl|apply wm|apply wn|(apply s_load tk;apply rfl;apply rfl;(assumption);apply rfl;apply rfl)|(apply s_ept tk;apply rfl;apply rfl;apply rfl;apply rfl))
  refine aw_loop (fun d : Nat => d ≤ l.length ∧ rtells l i d = []) (fun d => [(1, .i i), (2, .ptr b 0), (5, .i d)]) (fun _ => X) (fun d => l.length - d) 0 ⟨Nat.zero_le _, rfl⟩ (Fr.sub_cons rfl (Fr.sub_cons rfl (Fr.sub_cons rfl (Fr.sub_nil _)))) (AHeap.sub_refl _) ?_
  rintro d ⟨hd, hr0⟩
  repeat (first|(apply w1;apply rfl;apply rfl)|(apply w2;apply rfl)|(apply w3;apply rfl;apply rfl)|apply w4|apply w5|apply w6|apply w7|(apply w8;apply rfl)|(apply w9;apply rfl)|apply wa|apply wd|apply we|apply wb|apply wc|apply wf|apply wg|apply wh|(apply wi;apply rfl)|apply wj|apply wk|apply wl|apply wm|apply wn|(apply s_load tk;apply rfl;apply rfl;(assumption);apply rfl;apply rfl)|(apply s_ept tk;apply rfl;apply rfl;apply rfl;apply rfl))
  refine aw_cond rfl (fun c => ?_) (fun c => ?_)
  case refine_2 =>
    have : d = l.length := by have := of_decide_eq_false c; omega
    rw [← this, hr0] at hK
    repeat (first|(apply w1;apply rfl;apply rfl)|(apply w2;apply rfl)|(apply w3;apply rfl;apply rfl)|apply w4|apply w5|apply w6|apply w7|(apply w8;apply rfl)|(apply w9;apply rfl)|apply wa|apply wd|apply we|apply wb|apply wc|apply wf|apply wg|apply wh|(apply wi;apply rfl)|apply wj|apply wk|apply wl|apply wm|apply wn|(apply s_load tk;apply rfl;apply rfl;(assumption);apply rfl;apply rfl)|(apply s_ept tk;apply rfl;apply rfl;apply rfl;apply rfl))
    exact rt1 rfl rfl (.refl _) hsub hK
  have c' : d < l.length := by have := of_decide_eq_true c; omega
  have hg : l.getD d Node.zero = l[d] := by rw [List.getD_eq_getElem?_getD, List.getElem?_eq_getElem c']; rfl
  have hstep : rtells l i (d + 1) = rtells l i d ++ tellsIn i ((d : Int) + 1) l[d].ents := by simp only [rtells, hg]
  have hesm := (hsm _ (List.getElem_mem c')).2
  have hget := ms_get l d c'
  generalize l[d] = n at hstep hesm hget
  rw [hr0, List.nil_append] at hstep
  have lk := kids_len n.ents
  repeat (first|(apply w1;apply rfl;apply rfl)|(apply w2;apply rfl)|(apply w3;apply rfl;apply rfl)|apply w4|apply w5|apply w6|apply w7|(apply w8;apply rfl)|(apply w9;apply rfl)|apply wa|apply wd|apply we|apply wb|apply wc|apply wf|apply wg|apply wh|(apply wi;apply rfl)|apply wj|apply wk|apply wl|apply wm|apply wn|(apply s_load tk;apply rfl;apply rfl;(assumption);apply rfl;apply rfl)|(apply s_ept tk;apply rfl;apply rfl;apply rfl;apply rfl))
  refine aw_loop (fun j : Nat => j ≤ n.ents.length ∧ tellsIn i ((d : Int) + 1) (n.ents.take j) = []) (fun j => [(1, .i i), (2, .ptr b 0), (5, .i d), (6, .i j)]) (fun _ => X) (fun j => n.ents.length - j) 0 ⟨Nat.zero_le _, rfl⟩
    (Fr.sub_cons rfl (Fr.sub_cons rfl (Fr.sub_cons rfl (Fr.sub_cons rfl (Fr.sub_nil _))))) (AHeap.sub_refl _) ?_
  rintro j ⟨hj, ht0⟩
  repeat (first|(apply w1;apply rfl;apply rfl)|(apply w2;apply rfl)|(apply w3;apply rfl;apply rfl)|apply w4|apply w5|apply w6|apply w7|(apply w8;apply rfl)|(apply w9;apply rfl)|apply wa|apply wd|apply we|apply wb|apply wc|apply wf|apply wg|apply wh|(apply wi;apply rfl)|apply wj|apply wk|apply wl|apply wm|apply wn|(apply s_load tk;apply rfl;apply rfl;(assumption);apply rfl;apply rfl)|(apply s_ept tk;apply rfl;apply rfl;apply rfl;apply rfl))
  refine s_index tk rfl rfl rfl rfl (by omega) hget rfl ?_
  repeat (first|(apply w1;apply rfl;apply rfl)|(apply w2;apply rfl)|(apply w3;apply rfl;apply rfl)|apply w4|apply w5|apply w6|apply w7|(apply w8;apply rfl)|(apply w9;apply rfl)|apply wa|apply wd|apply we|apply wb|apply wc|apply wf|apply wg|apply wh|(apply wi;apply rfl)|apply wj|apply wk|apply wl|apply wm|apply wn|(apply s_load tk;apply rfl;apply rfl;(assumption);apply rfl;apply rfl)|(apply s_ept tk;apply rfl;apply rfl;apply rfl;apply rfl))
  refine aw_cond rfl (fun c2 => ?_) (fun c2 => ?_)
  · have c2' : j < n.ents.length := by have := of_decide_eq_true c2; omega
    have hts := tellsIn_step i ((d : Int) + 1) n.ents j c2'
    rw [ht0, List.nil_append] at hts
    repeat (first|(apply w1;apply rfl;apply rfl)|(apply w2;apply rfl)|(apply w3;apply rfl;apply rfl)|apply w4|apply w5|apply w6|apply w7|(apply w8;apply rfl)|(apply w9;apply rfl)|apply wa|apply wd|apply we|apply wb|apply wc|apply wf|apply wg|apply wh|(apply wi;apply rfl)|apply wj|apply wk|apply wl|apply wm|apply wn|(apply s_load tk;apply rfl;apply rfl;(assumption);apply rfl;apply rfl)|(apply s_ept tk;apply rfl;apply rfl;apply rfl;apply rfl))
    refine s_index tk rfl rfl rfl rfl (by omega) hget rfl ?_
    repeat (first|(apply w1;apply rfl;apply rfl)|(apply w2;apply rfl)|(apply w3;apply rfl;apply rfl)|apply w4|apply w5|apply w6|apply w7|(apply w8;apply rfl)|(apply w9;apply rfl)|apply wa|apply wd|apply we|apply wb|apply wc|apply wf|apply wg|apply wh|(apply wi;apply rfl)|apply wj|apply wk|apply wl|apply wm|apply wn|(apply s_load tk;apply rfl;apply rfl;(assumption);apply rfl;apply rfl)|(apply s_ept tk;apply rfl;apply rfl;apply rfl;apply rfl))
    refine s_index tk rfl rfl rfl rfl (by omega) (kids_get n.ents j c2') rfl ?_
    repeat (first|(apply w1;apply rfl;apply rfl)|(apply w2;apply rfl)|(apply w3;apply rfl;apply rfl)|apply w4|apply w5|apply w6|apply w7|(apply w8;apply rfl)|(apply w9;apply rfl)|apply wa|apply wd|apply we|apply wb|apply wc|apply wf|apply wg|apply wh|(apply wi;apply rfl)|apply wj|apply wk|apply wl|apply wm|apply wn|(apply s_load tk;apply rfl;apply rfl;(assumption);apply rfl;apply rfl)|(apply s_ept tk;apply rfl;apply rfl;apply rfl;apply rfl))
    refine aw_cond rfl (fun e => ?_) (fun e => ?_)
    · rw [if_pos (of_decide_eq_true e)] at hts
      have hsplit : tellsIn i ((d : Int) + 1) n.ents = tellsIn i ((d : Int) + 1) (n.ents.take (j + 1)) ++ tellsIn i ((d : Int) + 1) (n.ents.drop (j + 1)) := by
        conv => lhs; rw [← List.take_append_drop (j + 1) n.ents]
        simp only [tellsIn, List.filter_append, List.map_append]
      obtain ⟨z, hz⟩ := hpre l.length (d + 1) c'
      rw [hz, hstep, hsplit, hts] at hK
      repeat (first|(apply w1;apply rfl;apply rfl)|(apply w2;apply rfl)|(apply w3;apply rfl;apply rfl)|apply w4|apply w5|apply w6|apply w7|(apply w8;apply rfl)|(apply w9;apply rfl)|apply wa|apply wd|apply we|apply wb|apply wc|apply wf|apply wg|apply wh|(apply wi;apply rfl)|apply wj|apply wk|apply wl|apply wm|apply wn|(apply s_load tk;apply rfl;apply rfl;(assumption);apply rfl;apply rfl)|(apply s_ept tk;apply rfl;apply rfl;apply rfl;apply rfl))
      refine s_add rfl rfl rfl (by omega) ?_
      repeat (first|(apply w1;apply rfl;apply rfl)|(apply w2;apply rfl)|(apply w3;apply rfl;apply rfl)|apply w4|apply w5|apply w6|apply w7|(apply w8;apply rfl)|(apply w9;apply rfl)|apply wa|apply wd|apply we|apply wb|apply wc|apply wf|apply wg|apply wh|(apply wi;apply rfl)|apply wj|apply wk|apply wl|apply wm|apply wn|(apply s_load tk;apply rfl;apply rfl;(assumption);apply rfl;apply rfl)|(apply s_ept tk;apply rfl;apply rfl;apply rfl;apply rfl))
      exact rt1 rfl rfl (.refl _) hsub hK
    · rw [if_neg (of_decide_eq_false e)] at hts
      repeat (first|(apply w1;apply rfl;apply rfl)|(apply w2;apply rfl)|(apply w3;apply rfl;apply rfl)|apply w4|apply w5|apply w6|apply w7|(apply w8;apply rfl)|(apply w9;apply rfl)|apply wa|apply wd|apply we|apply wb|apply wc|apply wf|apply wg|apply wh|(apply wi;apply rfl)|apply wj|apply wk|apply wl|apply wm|apply wn|(apply s_load tk;apply rfl;apply rfl;(assumption);apply rfl;apply rfl)|(apply s_ept tk;apply rfl;apply rfl;apply rfl;apply rfl))
      refine s_add rfl rfl rfl (by omega) ?_
      repeat (first|(apply w1;apply rfl;apply rfl)|(apply w2;apply rfl)|(apply w3;apply rfl;apply rfl)|apply w4|apply w5|apply w6|apply w7|(apply w8;apply rfl)|(apply w9;apply rfl)|apply wa|apply wd|apply we|apply wb|apply wc|apply wf|apply wg|apply wh|(apply wi;apply rfl)|apply wj|apply wk|apply wl|apply wm|apply wn|(apply s_load tk;apply rfl;apply rfl;(assumption);apply rfl;apply rfl)|(apply s_ept tk;apply rfl;apply rfl;apply rfl;apply rfl))
      exact ⟨j + 1, ⟨c2', hts⟩, by omega, Fr.sub_cons rfl (Fr.sub_cons rfl (Fr.sub_cons rfl (Fr.sub_cons rfl (Fr.sub_nil _)))), AHeap.sub_refl _⟩
  · have : j = n.ents.length := by have := of_decide_eq_false c2; omega
    subst this
    rw [List.take_length] at ht0
    repeat (first|(apply w1;apply rfl;apply rfl)|(apply w2;apply rfl)|(apply w3;apply rfl;apply rfl)|apply w4|apply w5|apply w6|apply w7|(apply w8;apply rfl)|(apply w9;apply rfl)|apply wa|apply wd|apply we|apply wb|apply wc|apply wf|apply wg|apply wh|(apply wi;apply rfl)|apply wj|apply wk|apply wl|apply wm|apply wn|(apply s_load tk;apply rfl;apply rfl;(assumption);apply rfl;apply rfl)|(apply s_ept tk;apply rfl;apply rfl;apply rfl;apply rfl))
    refine s_add rfl rfl rfl (by omega) ?_
    repeat (first|(apply w1;apply rfl;apply rfl)|(apply w2;apply rfl)|(apply w3;apply rfl;apply rfl)|apply w4|apply w5|apply w6|apply w7|(apply w8;apply rfl)|(apply w9;apply rfl)|apply wa|apply wd|apply we|apply wb|apply wc|apply wf|apply wg|apply wh|(apply wi;apply rfl)|apply wj|apply wk|apply wl|apply wm|apply wn|(apply s_load tk;apply rfl;apply rfl;(assumption);apply rfl;apply rfl)|(apply s_ept tk;apply rfl;apply rfl;apply rfl;apply rfl))
    exact ⟨d + 1, ⟨c', by rw [hstep, ht0]⟩, by omega, Fr.sub_cons rfl (Fr.sub_cons rfl (Fr.sub_cons rfl (Fr.sub_nil _))), AHeap.sub_refl _⟩
end Abs
end Go.Proofs.Ytmokoofibnoojaa
