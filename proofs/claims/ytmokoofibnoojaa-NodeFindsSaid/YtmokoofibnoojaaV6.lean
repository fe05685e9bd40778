import Derived.Test.YtmokoofibnoojaaV4
set_option linter.unusedVariables false
namespace Go.Proofs.Ytmokoofibnoojaa
namespace Abs
set_option linter.unusedSimpArgs false
set_option maxRecDepth 10000
set_option maxHeartbeats 2000000
attribute [local irreducible] AOps AW AP ACalls thenQ inBlk noGoto

/-! ### node.Names -/
def entNames (l : List Ent) : List ByteArray := l.map (·.name)
theorem sortB_nil : sortB [] = [] := by simp [sortB]
/-- The state of a row that grows: none yet, or row b. -/
def rowV (k b cap : Nat) : AVal := if k = 0 then .sl [] .full else .row b 0 k cap
structure RowSt (X Y : AHeap) (l : List AVal) (b cap : Nat) (cs : List AVal) : Prop where
  old : ∀ x, X x ≠ none → Y x = X x ∧ (l ≠ [] → x ≠ b)
  row : l ≠ [] → Y b = some (.cells cs)
  head : l ≠ [] → cs.take l.length = l
  len : l ≠ [] → cs.length = cap
  cap : l ≠ [] → l.length ≤ cap
theorem RowSt.get {X Y : AHeap} {l cs : List AVal} {b cap x : Nat} {p : HObj} (h : RowSt X Y l b cap cs) (hx : X x = some p) : Y x = some p := by rw [(h.old x (by rw [hx]; simp)).1]; exact hx
theorem RowSt.sub {X Y : AHeap} {l cs : List AVal} {b cap : Nat} (h : RowSt X Y l b cap cs) : X.sub Y := fun x p hx => ⟨p, h.get hx, .refl p⟩
theorem RowSt.none {X : AHeap} : RowSt X X [] 0 0 [] := ⟨fun x _ => ⟨rfl, fun h => absurd rfl h⟩, fun h => absurd rfl h, fun h => absurd rfl h, fun h => absurd rfl h, fun h => absurd rfl h⟩
theorem RowSt.del {X Y : AHeap} {l cs : List AVal} {b cap : Nat} (h : RowSt X Y l b cap cs) (hl : l ≠ []) : X.sub (Y.del b) := fun x p hx => by
  obtain ⟨h1, h2⟩ := h.old x (by rw [hx]; simp)
  refine ⟨p, ?_, .refl p⟩
  unfold AHeap.del
  rw [if_neg (h2 hl), h1, hx]
theorem RowSt.put {X Y : AHeap} {l cs : List AVal} {b cap c : Nat} (h : RowSt X Y l b cap cs) (hc : Y c = Option.none) (o : HObj) : RowSt X (Y.put c o) l b cap cs := ⟨fun x hx => by
    obtain ⟨h1, h2⟩ := h.old x hx
    exact ⟨by rw [put_ne (fun e => by rw [e] at h1 hx; rw [hc] at h1; exact hx h1.symm), h1], h2⟩, fun hl => by
    have h1 := h.row hl
    rw [put_ne (fun e => by rw [e, hc] at h1; cases h1), h1], h.head, h.len, h.cap⟩
theorem RowSt.first {X Z : AHeap} {b0 cap0 b cap : Nat} {cs0 l cs : List AVal} (h : RowSt X Z [] b0 cap0 cs0) (hb : Z b = Option.none) (h1 : cs.take l.length = l) (h2 : cs.length = cap) (h3 : l.length ≤ cap) : RowSt X (Z.put b (.cells cs)) l b cap cs :=
  ⟨fun x hx => by
    have e := (h.old x hx).1
    have hne : x ≠ b := fun e2 => by rw [e2] at e hx; rw [hb] at e; exact hx e.symm
    exact ⟨by rw [put_ne hne, e], fun _ => hne⟩, fun _ => put_same _ _ _, fun _ => h1, fun _ => h2, fun _ => h3⟩
theorem RowSt.next {X Z : AHeap} {b0 cap0 b cap : Nat} {l0 cs0 l cs : List AVal} (h : RowSt X Z l0 b0 cap0 cs0) (hl : l0 ≠ []) (hb : b = b0 ∨ Z b = Option.none) (h1 : cs.take l.length = l) (h2 : cs.length = cap) (h3 : l.length ≤ cap) : RowSt X ((Z.del b0).put b (.cells cs)) l b cap cs :=
  ⟨fun x hx => by
    obtain ⟨e, e0⟩ := h.old x hx
    have hne : x ≠ b := fun e2 => by
      rcases hb with hb | hb
      · exact e0 hl (e2.trans hb)
      · rw [e2] at e hx; rw [hb] at e; exact hx e.symm
    refine ⟨?_, fun _ => hne⟩
    rw [put_ne hne]
    unfold AHeap.del
    rw [if_neg (e0 hl), e], fun _ => put_same _ _ _, fun _ => h1, fun _ => h2, fun _ => h3⟩
theorem uni_strs (l : List ByteArray) : Uni 1 (encStrs l) := fun x hx => by
  obtain ⟨e, _, rfl⟩ := List.mem_map.1 hx; rfl
theorem flatten_map1 {α : Type} (f : α → AVal) (l : List α) : (l.map fun x => [f x]).flatten = l.map f := by
  induction l with
  | nil => rfl
  | cons a l ih => simp [ih]
theorem entNames_app (l : List Ent) (e : Ent) : (entNames l).map AVal.s ++ [.s e.name] = (entNames (l ++ [e])).map AVal.s := by simp [entNames]
theorem names_c {n : Node} (hs : n.small) {H : AHeap} {K : AVal → AHeap → Prop} (hK : K (.sl (encStrs (sortB (entNames n.ents))) .no) H) : ACalls Try.prog 39 [.agg (encNode n)] H K := by
  refine acalls_body Try.func39 rfl rfl rfl ?_
  have ll := ents_len n.ents
  have hs2 := hs.2
  repeat first|(apply gO;first|(apply x1;apply r0;apply r0)|(apply x2;apply r0;(with_reducible repeat first|assumption|apply q0|exact q1 ‹_›|exact q2 ‹_›|(apply q3;first|assumption|exact n1 ‹_› ‹_›|exact n2 ‹_› ‹_›|exact n3 ‹_› ‹_›|exact n4 ‹_› ‹_›)|apply q4);apply r0)|(apply x3;apply r0)|apply w4|(apply x5;apply r0)|(apply w3;apply r0;apply r0)|(apply xst;apply r0;(with_reducible repeat first|assumption|apply put_same|(apply get_put;first|assumption|exact n1 ‹_› ‹_›|exact n2 ‹_› ‹_›|exact n3 ‹_› ‹_›|exact n4 ‹_› ‹_›)|(apply get_prot;(simpa using (by first|assumption|exact n1 ‹_› ‹_›|exact n2 ‹_› ‹_›|exact n3 ‹_› ‹_›|exact n4 ‹_› ‹_›))));apply r0)|(apply x8;apply r0)|(apply x6;apply r0;omega)|(apply x7;apply r0;omega)|(apply xbd;apply r0)|(apply xbs;apply r0)|(apply x9;apply r0))|(apply gW;first|apply w6|apply w7|(apply w8;apply r0)|(apply w9;apply r0)|apply wa|apply wd|apply wb|apply wc|apply wk)|apply w5|apply wl|apply wg|apply we|apply wf|apply wh|(apply wi;apply r0)|apply wj|apply wm|apply wn
  refine s_box rfl rfl rfl (fun b1 hb1 => ?_); have hb := hb1; (try simp only [put_none_iff, prot_none_iff] at hb); (repeat obtain ⟨_, _, hb⟩ := hb)
  repeat first|(apply gO;first|(apply x1;apply r0;apply r0)|(apply x2;apply r0;(with_reducible repeat first|assumption|apply q0|exact q1 ‹_›|exact q2 ‹_›|(apply q3;first|assumption|exact n1 ‹_› ‹_›|exact n2 ‹_› ‹_›|exact n3 ‹_› ‹_›|exact n4 ‹_› ‹_›)|apply q4);apply r0)|(apply x3;apply r0)|apply w4|(apply x5;apply r0)|(apply w3;apply r0;apply r0)|(apply xst;apply r0;(with_reducible repeat first|assumption|apply put_same|(apply get_put;first|assumption|exact n1 ‹_› ‹_›|exact n2 ‹_› ‹_›|exact n3 ‹_› ‹_›|exact n4 ‹_› ‹_›)|(apply get_prot;(simpa using (by first|assumption|exact n1 ‹_› ‹_›|exact n2 ‹_› ‹_›|exact n3 ‹_› ‹_›|exact n4 ‹_› ‹_›))));apply r0)|(apply x8;apply r0)|(apply x6;apply r0;omega)|(apply x7;apply r0;omega)|(apply xbd;apply r0)|(apply xbs;apply r0)|(apply x9;apply r0))|(apply gW;first|apply w6|apply w7|(apply w8;apply r0)|(apply w9;apply r0)|apply wa|apply wd|apply wb|apply wc|apply wk)|apply w5|apply wl|apply wg|apply we|apply wf|apply wh|(apply wi;apply r0)|apply wj|apply wm|apply wn
  generalize hX : AHeap.put H _ _ = X
  have fx1 : X b1 = some (.cells (encNode n)) := by rw [← hX]; exact (by with_reducible repeat first|assumption|apply put_same|(apply get_put;first|assumption|exact n1 ‹_› ‹_›|exact n2 ‹_› ‹_›|exact n3 ‹_› ‹_›|exact n4 ‹_› ‹_›)|(apply get_prot;(simpa using (by first|assumption|exact n1 ‹_› ‹_›|exact n2 ‹_› ‹_›|exact n3 ‹_› ‹_›|exact n4 ‹_› ‹_›))))
  have hsub : H.sub X := by rw [← hX]; exact (by repeat (first | exact AHeap.sub_refl _ | assumption | exact AHeap.del_sub (AHeap.sub_refl _) _ | refine sub_new (by first | assumption | exact del_none (by assumption) | exact sub_none (by assumption) (by assumption) | exact del_none (sub_none (by assumption) (by assumption))) ?_ | refine put_sub' ?_ | refine del_sub1 ?_))
  clear hX
  refine aw_loop (fun s : Nat × Nat × Nat × List AVal × AHeap => s.1 ≤ n.ents.length ∧ RowSt X s.2.2.2.2 ((entNames (n.ents.take s.1)).map .s) s.2.1 s.2.2.1 s.2.2.2.1) (fun s => [(1, .ptr b1 0), (3, rowV s.1 s.2.1 s.2.2.1), (7, .sl (n.ents.map encEnt) .no), (8, .i (n.ents.map encEnt).length), (9, .i s.1)])
    (fun s => s.2.2.2.2) (fun s => n.ents.length - s.1) (0, 0, 0, [], X) ⟨Nat.zero_le _, RowSt.none⟩ (by repeat (first | exact Fr.sub_nil _ | refine Fr.sub_cons rfl ?_)) (AHeap.sub_refl _) ?_
  rintro ⟨k, b, cap, cs, Y⟩ ⟨hk, hm⟩
  simp only at hk hm
  have hlen : ((entNames (n.ents.take k)).map AVal.s).length = k := by simp [entNames]; omega
  have hlen' := hlen
  rw [List.length_map] at hlen'
  repeat first|(apply gO;first|(apply x1;apply r0;apply r0)|(apply x2;apply r0;(with_reducible repeat first|assumption|apply q0|exact q1 ‹_›|exact q2 ‹_›|(apply q3;first|assumption|exact n1 ‹_› ‹_›|exact n2 ‹_› ‹_›|exact n3 ‹_› ‹_›|exact n4 ‹_› ‹_›)|apply q4);apply r0)|(apply x3;apply r0)|apply w4|(apply x5;apply r0)|(apply w3;apply r0;apply r0)|(apply xst;apply r0;(with_reducible repeat first|assumption|apply put_same|(apply get_put;first|assumption|exact n1 ‹_› ‹_›|exact n2 ‹_› ‹_›|exact n3 ‹_› ‹_›|exact n4 ‹_› ‹_›)|(apply get_prot;(simpa using (by first|assumption|exact n1 ‹_› ‹_›|exact n2 ‹_› ‹_›|exact n3 ‹_› ‹_›|exact n4 ‹_› ‹_›))));apply r0)|(apply x8;apply r0)|(apply x6;apply r0;omega)|(apply x7;apply r0;omega)|(apply xbd;apply r0)|(apply xbs;apply r0)|(apply x9;apply r0))|(apply gW;first|apply w6|apply w7|(apply w8;apply r0)|(apply w9;apply r0)|apply wa|apply wd|apply wb|apply wc|apply wk)|apply w5|apply wl|apply wg|apply we|apply wf|apply wh|(apply wi;apply r0)|apply wj|apply wm|apply wn
  refine aw_cond rfl (fun c => ?_) (fun c => ?_) <;> (first | replace c := of_decide_eq_true c | replace c := of_decide_eq_false c | replace c := not_t c | replace c := not_f c | skip)
  · have c' : k < n.ents.length := by omega
    have hstep : (entNames (n.ents.take (k + 1))).map AVal.s = (entNames (n.ents.take k)).map AVal.s ++ [.s n.ents[k].name] := by
      rw [List.take_add_one, List.getElem?_eq_getElem c', Option.toList_some, entNames_app]
    repeat first|(apply gO;first|(apply x1;apply r0;apply r0)|(apply x2;apply r0;(with_reducible repeat first|assumption|apply q0|exact q1 ‹_›|exact q2 ‹_›|(apply q3;first|assumption|exact n1 ‹_› ‹_›|exact n2 ‹_› ‹_›|exact n3 ‹_› ‹_›|exact n4 ‹_› ‹_›)|apply q4);apply r0)|(apply x3;apply r0)|apply w4|(apply x5;apply r0)|(apply w3;apply r0;apply r0)|(apply xst;apply r0;(with_reducible repeat first|assumption|apply put_same|(apply get_put;first|assumption|exact n1 ‹_› ‹_›|exact n2 ‹_› ‹_›|exact n3 ‹_› ‹_›|exact n4 ‹_› ‹_›)|(apply get_prot;(simpa using (by first|assumption|exact n1 ‹_› ‹_›|exact n2 ‹_› ‹_›|exact n3 ‹_› ‹_›|exact n4 ‹_› ‹_›))));apply r0)|(apply x8;apply r0)|(apply x6;apply r0;omega)|(apply x7;apply r0;omega)|(apply xbd;apply r0)|(apply xbs;apply r0)|(apply x9;apply r0))|(apply gW;first|apply w6|apply w7|(apply w8;apply r0)|(apply w9;apply r0)|apply wa|apply wd|apply wb|apply wc|apply wk)|apply w5|apply wl|apply wg|apply we|apply wf|apply wh|(apply wi;apply r0)|apply wj|apply wm|apply wn
    refine s_index tk rfl rfl rfl rfl (by omega) (map_get rfl c') rfl ?_
    repeat first|(apply gO;first|(apply x1;apply r0;apply r0)|(apply x2;apply r0;(with_reducible repeat first|assumption|apply q0|exact q1 ‹_›|exact q2 ‹_›|(apply q3;first|assumption|exact n1 ‹_› ‹_›|exact n2 ‹_› ‹_›|exact n3 ‹_› ‹_›|exact n4 ‹_› ‹_›)|apply q4);apply r0)|(apply x3;apply r0)|apply w4|(apply x5;apply r0)|(apply w3;apply r0;apply r0)|(apply xst;apply r0;(with_reducible repeat first|assumption|apply put_same|(apply get_put;first|assumption|exact n1 ‹_› ‹_›|exact n2 ‹_› ‹_›|exact n3 ‹_› ‹_›|exact n4 ‹_› ‹_›)|(apply get_prot;(simpa using (by first|assumption|exact n1 ‹_› ‹_›|exact n2 ‹_› ‹_›|exact n3 ‹_› ‹_›|exact n4 ‹_› ‹_›))));apply r0)|(apply x8;apply r0)|(apply x6;apply r0;omega)|(apply x7;apply r0;omega)|(apply xbd;apply r0)|(apply xbs;apply r0)|(apply x9;apply r0))|(apply gW;first|apply w6|apply w7|(apply w8;apply r0)|(apply w9;apply r0)|apply wa|apply wd|apply wb|apply wc|apply wk)|apply w5|apply wl|apply wg|apply we|apply wf|apply wh|(apply wi;apply r0)|apply wj|apply wm|apply wn
    refine s_alloc tk rfl rfl rfl (fun b5 hb5 => ?_); have hb := hb5; (try simp only [put_none_iff, prot_none_iff] at hb); (repeat obtain ⟨_, _, hb⟩ := hb)
    repeat first|(apply gO;first|(apply x1;apply r0;apply r0)|(apply x2;apply r0;(with_reducible repeat first|assumption|apply q0|exact q1 ‹_›|exact q2 ‹_›|(apply q3;first|assumption|exact n1 ‹_› ‹_›|exact n2 ‹_› ‹_›|exact n3 ‹_› ‹_›|exact n4 ‹_› ‹_›)|apply q4);apply r0)|(apply x3;apply r0)|apply w4|(apply x5;apply r0)|(apply w3;apply r0;apply r0)|(apply xst;apply r0;(with_reducible repeat first|assumption|apply put_same|(apply get_put;first|assumption|exact n1 ‹_› ‹_›|exact n2 ‹_› ‹_›|exact n3 ‹_› ‹_›|exact n4 ‹_› ‹_›)|(apply get_prot;(simpa using (by first|assumption|exact n1 ‹_› ‹_›|exact n2 ‹_› ‹_›|exact n3 ‹_› ‹_›|exact n4 ‹_› ‹_›))));apply r0)|(apply x8;apply r0)|(apply x6;apply r0;omega)|(apply x7;apply r0;omega)|(apply xbd;apply r0)|(apply xbs;apply r0)|(apply x9;apply r0))|(apply gW;first|apply w6|apply w7|(apply w8;apply r0)|(apply w9;apply r0)|apply wa|apply wd|apply wb|apply wc|apply wk)|apply w5|apply wl|apply wg|apply we|apply wf|apply wh|(apply wi;apply r0)|apply wj|apply wm|apply wn
    have hz : ∀ o : HObj, (Y.put b5 (.cells [.s ⟨#[]⟩, .i 0])).put b5 o = Y.put b5 o := fun o => put_put _ _ _ _
    replace hm : RowSt X (Y.put b5 (.cells (encEnt n.ents[k]))) ((entNames (n.ents.take k)).map .s) b cap cs := hm.put hb _
    rw [hz]
    generalize Y.put b5 _ = Z at hm ⊢
    have hl1 : ((entNames (n.ents.take (k + 1))).map AVal.s).length = k + 1 := by rw [hstep, List.length_append, hlen]; rfl
    by_cases hk0 : k = 0
    · subst hk0
      refine s_append_row tk rfl rfl rfl rfl rfl rfl rfl (uni_one1 _) (Nat.zero_lt_succ _) (by simp only [List.length_cons, List.length_nil]; omega) (fun b2 cap2 hb2 hcap2 => ?_)
      replace hm : RowSt X Z [] b cap cs := by simpa [entNames] using hm
      have hm2 := RowSt.first (l := (entNames (n.ents.take (0 + 1))).map AVal.s) (cs := [AVal.s n.ents[0].name] ++ rep (cap2 - 1) [.s ⟨#[]⟩]) (cap := cap2) hm hb2 (by rw [hl1, hstep]; rfl) (by rw [List.length_append, rep_len]; simp at hcap2 ⊢; omega) (by rw [hl1]; exact hcap2)
      repeat first|(apply gO;first|(apply x1;apply r0;apply r0)|(apply x2;apply r0;(with_reducible repeat first|assumption|apply q0|exact q1 ‹_›|exact q2 ‹_›|(apply q3;first|assumption|exact n1 ‹_› ‹_›|exact n2 ‹_› ‹_›|exact n3 ‹_› ‹_›|exact n4 ‹_› ‹_›)|apply q4);apply r0)|(apply x3;apply r0)|apply w4|(apply x5;apply r0)|(apply w3;apply r0;apply r0)|(apply xst;apply r0;(with_reducible repeat first|assumption|apply put_same|(apply get_put;first|assumption|exact n1 ‹_› ‹_›|exact n2 ‹_› ‹_›|exact n3 ‹_› ‹_›|exact n4 ‹_› ‹_›)|(apply get_prot;(simpa using (by first|assumption|exact n1 ‹_› ‹_›|exact n2 ‹_› ‹_›|exact n3 ‹_› ‹_›|exact n4 ‹_› ‹_›))));apply r0)|(apply x8;apply r0)|(apply x6;apply r0;omega)|(apply x7;apply r0;omega)|(apply xbd;apply r0)|(apply xbs;apply r0)|(apply x9;apply r0))|(apply gW;first|apply w6|apply w7|(apply w8;apply r0)|(apply w9;apply r0)|apply wa|apply wd|apply wb|apply wc|apply wk)|apply w5|apply wl|apply wg|apply we|apply wf|apply wh|(apply wi;apply r0)|apply wj|apply wm|apply wn
      refine ⟨(0 + 1, b2, cap2, _, _), ⟨c', hm2⟩, by simp only; omega, (by repeat (first | exact Fr.sub_nil _ | refine Fr.sub_cons rfl ?_)), AHeap.sub_refl _⟩
    · have hne : (entNames (n.ents.take k)).map AVal.s ≠ [] := fun e => by rw [e] at hlen; simp at hlen; omega
      rw [show rowV k b cap = .row b 0 k cap by rw [rowV, if_neg hk0]]
      refine s_rowapp (rows := encStrs (entNames (n.ents.take k))) tk rfl rfl (hm.row hne) rfl rfl rfl rfl rfl (uni_strs _) (by rw [strs_len]; exact hlen') (by
        rw [Nat.mul_one, encStrs, flatten_map1]; have := hm.head hne; rw [hlen] at this; exact this) (by rw [Nat.mul_one]; exact hm.len hne) (by have := hm.cap hne; omega) (uni_one1 _) rfl (by omega) (by simp only [List.length_cons, List.length_nil]; omega) (fun b2 cap2 cs2 hb2 h1 h2 h3 => ?_)
      have hm2 := RowSt.next (l := (entNames (n.ents.take (k + 1))).map AVal.s) (cs := cs2) (cap := cap2) hm hne hb2 (by
        rw [hl1]
        rw [Nat.mul_one] at h3
        exact h3.trans (by rw [List.flatten_append, encStrs, flatten_map1, hstep]; rfl)) (by rw [h2, Nat.mul_one]) (by rw [hl1]; exact h1)
      repeat first|(apply gO;first|(apply x1;apply r0;apply r0)|(apply x2;apply r0;(with_reducible repeat first|assumption|apply q0|exact q1 ‹_›|exact q2 ‹_›|(apply q3;first|assumption|exact n1 ‹_› ‹_›|exact n2 ‹_› ‹_›|exact n3 ‹_› ‹_›|exact n4 ‹_› ‹_›)|apply q4);apply r0)|(apply x3;apply r0)|apply w4|(apply x5;apply r0)|(apply w3;apply r0;apply r0)|(apply xst;apply r0;(with_reducible repeat first|assumption|apply put_same|(apply get_put;first|assumption|exact n1 ‹_› ‹_›|exact n2 ‹_› ‹_›|exact n3 ‹_› ‹_›|exact n4 ‹_› ‹_›)|(apply get_prot;(simpa using (by first|assumption|exact n1 ‹_› ‹_›|exact n2 ‹_› ‹_›|exact n3 ‹_› ‹_›|exact n4 ‹_› ‹_›))));apply r0)|(apply x8;apply r0)|(apply x6;apply r0;omega)|(apply x7;apply r0;omega)|(apply xbd;apply r0)|(apply xbs;apply r0)|(apply x9;apply r0))|(apply gW;first|apply w6|apply w7|(apply w8;apply r0)|(apply w9;apply r0)|apply wa|apply wd|apply wb|apply wc|apply wk)|apply w5|apply wl|apply wg|apply we|apply wf|apply wh|(apply wi;apply r0)|apply wj|apply wm|apply wn
      refine ⟨(k + 1, b2, cap2, _, _), ⟨c', hm2⟩, by simp only; omega, (by repeat (first | exact Fr.sub_nil _ | refine Fr.sub_cons rfl ?_)), AHeap.sub_refl _⟩
  · have hke : k = n.ents.length := by omega
    subst hke
    rw [List.take_length] at hm hlen
    by_cases hk0 : n.ents.length = 0
    · have he : n.ents = [] := List.eq_nil_of_length_eq_zero hk0
      have e1 : rowV n.ents.length b cap = .sl [] .full := by rw [rowV, if_pos hk0]
      rw [he] at hK
      rw [show entNames [] = [] from rfl, sortB_nil] at hK
      rw [e1]
      have hsy : H.sub Y := AHeap.sub_trans hsub hm.sub
      repeat first|(apply gO;first|(apply x1;apply r0;apply r0)|(apply x2;apply r0;(with_reducible repeat first|assumption|apply q0|exact q1 ‹_›|exact q2 ‹_›|(apply q3;first|assumption|exact n1 ‹_› ‹_›|exact n2 ‹_› ‹_›|exact n3 ‹_› ‹_›|exact n4 ‹_› ‹_›)|apply q4);apply r0)|(apply x3;apply r0)|apply w4|(apply x5;apply r0)|(apply w3;apply r0;apply r0)|(apply xst;apply r0;(with_reducible repeat first|assumption|apply put_same|(apply get_put;first|assumption|exact n1 ‹_› ‹_›|exact n2 ‹_› ‹_›|exact n3 ‹_› ‹_›|exact n4 ‹_› ‹_›)|(apply get_prot;(simpa using (by first|assumption|exact n1 ‹_› ‹_›|exact n2 ‹_› ‹_›|exact n3 ‹_› ‹_›|exact n4 ‹_› ‹_›))));apply r0)|(apply x8;apply r0)|(apply x6;apply r0;omega)|(apply x7;apply r0;omega)|(apply xbd;apply r0)|(apply xbs;apply r0)|(apply x9;apply r0))|(apply gW;first|apply w6|apply w7|(apply w8;apply r0)|(apply w9;apply r0)|apply wa|apply wd|apply wb|apply wc|apply wk)|apply w5|apply wl|apply wg|apply we|apply wf|apply wh|(apply wi;apply r0)|apply wj|apply wm|apply wn
      refine sortnil_c ?_
      repeat first|(apply gO;first|(apply x1;apply r0;apply r0)|(apply x2;apply r0;(with_reducible repeat first|assumption|apply q0|exact q1 ‹_›|exact q2 ‹_›|(apply q3;first|assumption|exact n1 ‹_› ‹_›|exact n2 ‹_› ‹_›|exact n3 ‹_› ‹_›|exact n4 ‹_› ‹_›)|apply q4);apply r0)|(apply x3;apply r0)|apply w4|(apply x5;apply r0)|(apply w3;apply r0;apply r0)|(apply xst;apply r0;(with_reducible repeat first|assumption|apply put_same|(apply get_put;first|assumption|exact n1 ‹_› ‹_›|exact n2 ‹_› ‹_›|exact n3 ‹_› ‹_›|exact n4 ‹_› ‹_›)|(apply get_prot;(simpa using (by first|assumption|exact n1 ‹_› ‹_›|exact n2 ‹_› ‹_›|exact n3 ‹_› ‹_›|exact n4 ‹_› ‹_›))));apply r0)|(apply x8;apply r0)|(apply x6;apply r0;omega)|(apply x7;apply r0;omega)|(apply xbd;apply r0)|(apply xbs;apply r0)|(apply x9;apply r0))|(apply gW;first|apply w6|apply w7|(apply w8;apply r0)|(apply w9;apply r0)|apply wa|apply wd|apply wb|apply wc|apply wk)|apply w5|apply wl|apply wg|apply we|apply wf|apply wh|(apply wi;apply r0)|apply wj|apply wm|apply wn
      exact rt1 (H' := H) rfl rfl (.sl _ _) (by repeat (first | exact AHeap.sub_refl _ | assumption | exact AHeap.del_sub (AHeap.sub_refl _) _ | refine sub_new (by first | assumption | exact del_none (by assumption) | exact sub_none (by assumption) (by assumption) | exact del_none (sub_none (by assumption) (by assumption))) ?_ | refine put_sub' ?_ | refine del_sub1 ?_)) hK
    · have hne : (entNames n.ents).map AVal.s ≠ [] := fun e => by rw [e] at hlen; simp at hlen; omega
      have e1 : rowV n.ents.length b cap = .row b 0 (entNames n.ents).length cap := by rw [rowV, if_neg hk0]; simp [entNames]
      rw [e1]
      have hnl : (entNames n.ents).length = n.ents.length := by simp [entNames]
      have hsy : H.sub (Y.del b) := AHeap.sub_trans hsub (hm.del hne)
      have h1 := hm.row hne
      have h2 := hm.head hne
      have h3 := hm.len hne
      have h4 := hm.cap hne
      rw [List.length_map] at h2 h4
      repeat first|(apply gO;first|(apply x1;apply r0;apply r0)|(apply x2;apply r0;(with_reducible repeat first|assumption|apply q0|exact q1 ‹_›|exact q2 ‹_›|(apply q3;first|assumption|exact n1 ‹_› ‹_›|exact n2 ‹_› ‹_›|exact n3 ‹_› ‹_›|exact n4 ‹_› ‹_›)|apply q4);apply r0)|(apply x3;apply r0)|apply w4|(apply x5;apply r0)|(apply w3;apply r0;apply r0)|(apply xst;apply r0;(with_reducible repeat first|assumption|apply put_same|(apply get_put;first|assumption|exact n1 ‹_› ‹_›|exact n2 ‹_› ‹_›|exact n3 ‹_› ‹_›|exact n4 ‹_› ‹_›)|(apply get_prot;(simpa using (by first|assumption|exact n1 ‹_› ‹_›|exact n2 ‹_› ‹_›|exact n3 ‹_› ‹_›|exact n4 ‹_› ‹_›))));apply r0)|(apply x8;apply r0)|(apply x6;apply r0;omega)|(apply x7;apply r0;omega)|(apply xbd;apply r0)|(apply xbs;apply r0)|(apply x9;apply r0))|(apply gW;first|apply w6|apply w7|(apply w8;apply r0)|(apply w9;apply r0)|apply wa|apply wd|apply wb|apply wc|apply wk)|apply w5|apply wl|apply wg|apply we|apply wf|apply wh|(apply wi;apply r0)|apply wj|apply wm|apply wn
      refine sort_c h1 h2 (by omega) (by omega) ?_
      have hsl := sortB_len (entNames n.ents)
      refine aops_close (d := 3) (rows := encStrs (sortB (entNames n.ents))) (es := 1) rfl (put_same _ _ _) (by decide) (fun x hx => by
        obtain ⟨e, _, rfl⟩ := List.mem_map.1 hx; rfl) (by rw [strs_len, hsl]) (by
        rw [List.drop_zero, Nat.mul_one, encStrs, flatten_map1]
        exact List.take_left' (by rw [List.length_map, hsl])) (by omega) (by omega) (by
        rw [List.length_append, List.length_map, hsl, List.length_drop]; omega) ?_
      repeat first|(apply gO;first|(apply x1;apply r0;apply r0)|(apply x2;apply r0;(with_reducible repeat first|assumption|apply q0|exact q1 ‹_›|exact q2 ‹_›|(apply q3;first|assumption|exact n1 ‹_› ‹_›|exact n2 ‹_› ‹_›|exact n3 ‹_› ‹_›|exact n4 ‹_› ‹_›)|apply q4);apply r0)|(apply x3;apply r0)|apply w4|(apply x5;apply r0)|(apply w3;apply r0;apply r0)|(apply xst;apply r0;(with_reducible repeat first|assumption|apply put_same|(apply get_put;first|assumption|exact n1 ‹_› ‹_›|exact n2 ‹_› ‹_›|exact n3 ‹_› ‹_›|exact n4 ‹_› ‹_›)|(apply get_prot;(simpa using (by first|assumption|exact n1 ‹_› ‹_›|exact n2 ‹_› ‹_›|exact n3 ‹_› ‹_›|exact n4 ‹_› ‹_›))));apply r0)|(apply x8;apply r0)|(apply x6;apply r0;omega)|(apply x7;apply r0;omega)|(apply xbd;apply r0)|(apply xbs;apply r0)|(apply x9;apply r0))|(apply gW;first|apply w6|apply w7|(apply w8;apply r0)|(apply w9;apply r0)|apply wa|apply wd|apply wb|apply wc|apply wk)|apply w5|apply wl|apply wg|apply we|apply wf|apply wh|(apply wi;apply r0)|apply wj|apply wm|apply wn
      refine rt1 (H' := H) rfl rfl (.refl _) ?_ hK
      refine AHeap.sub_trans hsy fun x p hx => ⟨p, ?_, .refl p⟩
      unfold AHeap.del AHeap.put at *
      split at hx
      · cases hx
      · rename_i hxb; rw [if_neg hxb, if_neg hxb]; exact hx
end Abs
end Go.Proofs.Ytmokoofibnoojaa

set_option linter.unusedVariables false
namespace Go.Proofs.Ytmokoofibnoojaa
namespace Abs
set_option linter.unusedSimpArgs false
set_option maxRecDepth 10000
set_option maxHeartbeats 2000000
attribute [local irreducible] AOps AW AP ACalls thenQ inBlk noGoto

/-! ### the document's Sorted -/
def sStep (x : ByteArray) (s : List ByteArray × Bool) (e : ByteArray) : List ByteArray × Bool := if Op.bytesLess x.toList e.toList = true ∧ s.2 = false then (s.1 ++ [x] ++ [e], true) else (s.1 ++ [e], s.2)
def sTo (x : ByteArray) (l : List ByteArray) : Nat → List ByteArray × Bool
  | 0 => ([], false)
  | k + 1 => sStep x (sTo x l k) (l.getD k ⟨#[]⟩)
def sEnd (x : ByteArray) (l : List ByteArray) : List ByteArray := if (sTo x l l.length).2 = true then (sTo x l l.length).1 else (sTo x l l.length).1 ++ [x]
def sortTo (l : List ByteArray) : Nat → List ByteArray
  | 0 => []
  | k + 1 => sEnd (l.getD k ⟨#[]⟩) (sortTo l k)
theorem sTo_len (x : ByteArray) (l : List ByteArray) : ∀ k : Nat, (sTo x l k).1.length = k + (if (sTo x l k).2 = true then 1 else 0)
  | 0 => rfl
  | k + 1 => by
    have ih := sTo_len x l k
    simp only [sTo, sStep]
    split
    · rename_i h
      rw [h.2] at ih
      simp at ih ⊢
      omega
    · simp only [List.length_append, List.length_cons, List.length_nil]
      omega
theorem sEnd_len (x : ByteArray) (l : List ByteArray) : (sEnd x l).length = l.length + 1 := by
  have h := sTo_len x l l.length
  unfold sEnd
  split
  · rename_i e; rw [if_pos e] at h; exact h
  · rename_i e; rw [if_neg e] at h; rw [List.length_append, h]; rfl
theorem sortTo_len (l : List ByteArray) : ∀ k : Nat, (sortTo l k).length = k
  | 0 => rfl
  | k + 1 => by rw [sortTo, sEnd_len, sortTo_len l k]
theorem strs_app (l : List ByteArray) (e : ByteArray) : encStrs l ++ [[.s e]] = encStrs (l ++ [e]) := by simp [encStrs]
theorem rsorted_c {l : List ByteArray} {o0 : Own} (hl : l.length ≤ 1073741824) (hsz : ∀ s ∈ l, s.size ≤ 1073741824) {H : AHeap} {K : AVal → AHeap → Prop} (hK : K (.sl (encStrs (sortTo l l.length)) .no) H) : ACalls Try.prog 40 [.sl (encStrs l) o0] H K := by
  refine acalls_body Try.func40 rfl rfl rfl ?_
  have ll := strs_len l
  repeat first|(apply gO;first|(apply x1;apply r0;apply r0)|(apply x2;apply r0;(with_reducible repeat first|assumption|apply q0|exact q1 ‹_›|exact q2 ‹_›|(apply q3;first|assumption|exact n1 ‹_› ‹_›|exact n2 ‹_› ‹_›|exact n3 ‹_› ‹_›|exact n4 ‹_› ‹_›)|apply q4);apply r0)|(apply x3;apply r0)|apply w4|(apply x5;apply r0)|(apply w3;apply r0;apply r0)|(apply xst;apply r0;(with_reducible repeat first|assumption|apply put_same|(apply get_put;first|assumption|exact n1 ‹_› ‹_›|exact n2 ‹_› ‹_›|exact n3 ‹_› ‹_›|exact n4 ‹_› ‹_›)|(apply get_prot;(simpa using (by first|assumption|exact n1 ‹_› ‹_›|exact n2 ‹_› ‹_›|exact n3 ‹_› ‹_›|exact n4 ‹_› ‹_›))));apply r0)|(apply x8;apply r0)|(apply x6;apply r0;omega)|(apply x7;apply r0;omega)|(apply xbd;apply r0)|(apply xbs;apply r0)|(apply x9;apply r0))|(apply gW;first|apply w6|apply w7|(apply w8;apply r0)|(apply w9;apply r0)|apply wa|apply wd|apply wb|apply wc|apply wk)|apply w5|apply wl|apply wg|apply we|apply wf|apply wh|(apply wi;apply r0)|apply wj|apply wm|apply wn
  refine aw_loop (fun s : Nat × Own × AHeap => s.1 ≤ l.length ∧ ∀ x, H x ≠ none → s.2.2 x = H x) (fun s => [(0, .sl (encStrs l) o0), (3, .sl (encStrs (sortTo l s.1)) s.2.1), (4, .i s.1)]) (fun s => s.2.2) (fun s => l.length - s.1) (0, .full, H) ⟨Nat.zero_le _, fun x _ => rfl⟩ (by repeat (first | exact Fr.sub_nil _ | refine Fr.sub_cons rfl ?_)) (AHeap.sub_refl _) ?_
  rintro ⟨i, oo, Y⟩ ⟨hi, hY⟩
  simp only at hi hY
  have lo := strs_len (sortTo l i)
  have lo2 := sortTo_len l i
  repeat first|(apply gO;first|(apply x1;apply r0;apply r0)|(apply x2;apply r0;(with_reducible repeat first|assumption|apply q0|exact q1 ‹_›|exact q2 ‹_›|(apply q3;first|assumption|exact n1 ‹_› ‹_›|exact n2 ‹_› ‹_›|exact n3 ‹_› ‹_›|exact n4 ‹_› ‹_›)|apply q4);apply r0)|(apply x3;apply r0)|apply w4|(apply x5;apply r0)|(apply w3;apply r0;apply r0)|(apply xst;apply r0;(with_reducible repeat first|assumption|apply put_same|(apply get_put;first|assumption|exact n1 ‹_› ‹_›|exact n2 ‹_› ‹_›|exact n3 ‹_› ‹_›|exact n4 ‹_› ‹_›)|(apply get_prot;(simpa using (by first|assumption|exact n1 ‹_› ‹_›|exact n2 ‹_› ‹_›|exact n3 ‹_› ‹_›|exact n4 ‹_› ‹_›))));apply r0)|(apply x8;apply r0)|(apply x6;apply r0;omega)|(apply x7;apply r0;omega)|(apply xbd;apply r0)|(apply xbs;apply r0)|(apply x9;apply r0))|(apply gW;first|apply w6|apply w7|(apply w8;apply r0)|(apply w9;apply r0)|apply wa|apply wd|apply wb|apply wc|apply wk)|apply w5|apply wl|apply wg|apply we|apply wf|apply wh|(apply wi;apply r0)|apply wj|apply wm|apply wn
  refine aw_cond rfl (fun c => ?_) (fun c => ?_) <;> (first | replace c := of_decide_eq_true c | replace c := of_decide_eq_false c | replace c := not_t c | replace c := not_f c | skip)
  · have c' : i < l.length := by omega
    have hx : l[i].size ≤ 1073741824 := hsz _ (List.getElem_mem c')
    have hm0 : OwnSt H Y .full := ⟨trivial, fun x hx => ⟨hY x hx, (by intro e; cases e)⟩⟩
    have hso : sortTo l (i + 1) = sEnd l[i] (sortTo l i) := by
      rw [sortTo, List.getD_eq_getElem?_getD, List.getElem?_eq_getElem c', Option.getD_some]
    repeat first|(apply gO;first|(apply x1;apply r0;apply r0)|(apply x2;apply r0;(with_reducible repeat first|assumption|apply q0|exact q1 ‹_›|exact q2 ‹_›|(apply q3;first|assumption|exact n1 ‹_› ‹_›|exact n2 ‹_› ‹_›|exact n3 ‹_› ‹_›|exact n4 ‹_› ‹_›)|apply q4);apply r0)|(apply x3;apply r0)|apply w4|(apply x5;apply r0)|(apply w3;apply r0;apply r0)|(apply xst;apply r0;(with_reducible repeat first|assumption|apply put_same|(apply get_put;first|assumption|exact n1 ‹_› ‹_›|exact n2 ‹_› ‹_›|exact n3 ‹_› ‹_›|exact n4 ‹_› ‹_›)|(apply get_prot;(simpa using (by first|assumption|exact n1 ‹_› ‹_›|exact n2 ‹_› ‹_›|exact n3 ‹_› ‹_›|exact n4 ‹_› ‹_›))));apply r0)|(apply x8;apply r0)|(apply x6;apply r0;omega)|(apply x7;apply r0;omega)|(apply xbd;apply r0)|(apply xbs;apply r0)|(apply x9;apply r0))|(apply gW;first|apply w6|apply w7|(apply w8;apply r0)|(apply w9;apply r0)|apply wa|apply wd|apply wb|apply wc|apply wk)|apply w5|apply wl|apply wg|apply we|apply wf|apply wh|(apply wi;apply r0)|apply wj|apply wm|apply wn
    refine aw_loop (fun s : Nat × Own × AHeap => s.1 ≤ (sortTo l i).length ∧ OwnSt H s.2.2 s.2.1 ∧ ownEs 1 s.2.1) (fun s => [(0, .sl (encStrs l) o0), (3, .sl (encStrs (sortTo l i)) oo), (4, .i i), (5, .sl (encStrs (sTo l[i] (sortTo l i) s.1).1) s.2.1), (6, .b (sTo l[i] (sortTo l i) s.1).2), (7, .i s.1)]) (fun s => s.2.2) (fun s => (sortTo l i).length - s.1) (0, .full, Y) ⟨Nat.zero_le _, hm0, trivial⟩ (by repeat (first | exact Fr.sub_nil _ | refine Fr.sub_cons rfl ?_)) (AHeap.sub_refl _) ?_
    rintro ⟨k, on, Z⟩ ⟨hk, hm, he1⟩
    simp only at hk hm he1
    have hA := sTo_len l[i] (sortTo l i) k
    repeat first|(apply gO;first|(apply x1;apply r0;apply r0)|(apply x2;apply r0;(with_reducible repeat first|assumption|apply q0|exact q1 ‹_›|exact q2 ‹_›|(apply q3;first|assumption|exact n1 ‹_› ‹_›|exact n2 ‹_› ‹_›|exact n3 ‹_› ‹_›|exact n4 ‹_› ‹_›)|apply q4);apply r0)|(apply x3;apply r0)|apply w4|(apply x5;apply r0)|(apply w3;apply r0;apply r0)|(apply xst;apply r0;(with_reducible repeat first|assumption|apply put_same|(apply get_put;first|assumption|exact n1 ‹_› ‹_›|exact n2 ‹_› ‹_›|exact n3 ‹_› ‹_›|exact n4 ‹_› ‹_›)|(apply get_prot;(simpa using (by first|assumption|exact n1 ‹_› ‹_›|exact n2 ‹_› ‹_›|exact n3 ‹_› ‹_›|exact n4 ‹_› ‹_›))));apply r0)|(apply x8;apply r0)|(apply x6;apply r0;omega)|(apply x7;apply r0;omega)|(apply xbd;apply r0)|(apply xbs;apply r0)|(apply x9;apply r0))|(apply gW;first|apply w6|apply w7|(apply w8;apply r0)|(apply w9;apply r0)|apply wa|apply wd|apply wb|apply wc|apply wk)|apply w5|apply wl|apply wg|apply we|apply wf|apply wh|(apply wi;apply r0)|apply wj|apply wm|apply wn
    refine aw_cond rfl (fun c1 => ?_) (fun c1 => ?_) <;> (first | replace c1 := of_decide_eq_true c1 | replace c1 := of_decide_eq_false c1 | replace c1 := not_t c1 | replace c1 := not_f c1 | skip)
    · have c2 : k < (sortTo l i).length := by omega
      have hstep : sTo l[i] (sortTo l i) (k + 1) = sStep l[i] (sTo l[i] (sortTo l i) k) (sortTo l i)[k] := by
        simp only [sTo, List.getD_eq_getElem?_getD, List.getElem?_eq_getElem c2, Option.getD_some]
      generalize sTo l[i] (sortTo l i) k = I at hA hstep ⊢
      obtain ⟨A, d⟩ := I
      simp only at hA
      have hA' : A.length ≤ k + 1 := by split at hA <;> omega
      repeat first|(apply gO;first|(apply x1;apply r0;apply r0)|(apply x2;apply r0;(with_reducible repeat first|assumption|apply q0|exact q1 ‹_›|exact q2 ‹_›|(apply q3;first|assumption|exact n1 ‹_› ‹_›|exact n2 ‹_› ‹_›|exact n3 ‹_› ‹_›|exact n4 ‹_› ‹_›)|apply q4);apply r0)|(apply x3;apply r0)|apply w4|(apply x5;apply r0)|(apply w3;apply r0;apply r0)|(apply xst;apply r0;(with_reducible repeat first|assumption|apply put_same|(apply get_put;first|assumption|exact n1 ‹_› ‹_›|exact n2 ‹_› ‹_›|exact n3 ‹_› ‹_›|exact n4 ‹_› ‹_›)|(apply get_prot;(simpa using (by first|assumption|exact n1 ‹_› ‹_›|exact n2 ‹_› ‹_›|exact n3 ‹_› ‹_›|exact n4 ‹_› ‹_›))));apply r0)|(apply x8;apply r0)|(apply x6;apply r0;omega)|(apply x7;apply r0;omega)|(apply xbd;apply r0)|(apply xbs;apply r0)|(apply x9;apply r0))|(apply gW;first|apply w6|apply w7|(apply w8;apply r0)|(apply w9;apply r0)|apply wa|apply wd|apply wb|apply wc|apply wk)|apply w5|apply wl|apply wg|apply we|apply wf|apply wh|(apply wi;apply r0)|apply wj|apply wm|apply wn
      refine aw_plan mixed (.take 0 (.take 1 (.take 2 (.take 3 (.take 4 (.take 5 (.take 6 (.take 7 (.one 8 (.take 9 .done)))))))))) (by kernel_rfl) ?_
      repeat first|(apply gO;first|(apply x1;apply r0;apply r0)|(apply x2;apply r0;(with_reducible repeat first|assumption|apply q0|exact q1 ‹_›|exact q2 ‹_›|(apply q3;first|assumption|exact n1 ‹_› ‹_›|exact n2 ‹_› ‹_›|exact n3 ‹_› ‹_›|exact n4 ‹_› ‹_›)|apply q4);apply r0)|(apply x3;apply r0)|apply w4|(apply x5;apply r0)|(apply w3;apply r0;apply r0)|(apply xst;apply r0;(with_reducible repeat first|assumption|apply put_same|(apply get_put;first|assumption|exact n1 ‹_› ‹_›|exact n2 ‹_› ‹_›|exact n3 ‹_› ‹_›|exact n4 ‹_› ‹_›)|(apply get_prot;(simpa using (by first|assumption|exact n1 ‹_› ‹_›|exact n2 ‹_› ‹_›|exact n3 ‹_› ‹_›|exact n4 ‹_› ‹_›))));apply r0)|(apply x8;apply r0)|(apply x6;apply r0;omega)|(apply x7;apply r0;omega)|(apply xbd;apply r0)|(apply xbs;apply r0)|(apply x9;apply r0))|(apply gP;first|(apply y1;apply r0;apply r0)|apply y0|(apply take1_ok;apply r0)|(apply skip1_ok;apply r0)|(apply y4;apply r0)|(apply y2;apply r0;apply r0;(with_reducible repeat first|assumption|(apply prot_get;(focus(simp;done));(with_reducible repeat first|assumption|apply q0|exact q1 ‹_›|exact q2 ‹_›|(apply q3;first|assumption|exact n1 ‹_› ‹_›|exact n2 ‹_› ‹_›|exact n3 ‹_› ‹_›|exact n4 ‹_› ‹_›)|apply q4))|(apply get_put;first|assumption|exact n1 ‹_› ‹_›|exact n2 ‹_› ‹_›|exact n3 ‹_› ‹_›|exact n4 ‹_› ‹_›));apply r0)|(apply y3;apply r0;apply r0)|(apply y8;apply r0;apply r0)|(apply y6;apply r0;apply r0;omega)|(apply y7;apply r0;apply r0;omega))|(apply gW;first|apply w6|apply w7|(apply w8;apply r0)|(apply w9;apply r0)|apply wa|apply wd|apply wb|apply wc|apply wk)|apply w5|apply wl|apply wg|apply we|apply wf|apply wh|(apply wi;apply r0)|apply wj|apply wm|apply wn
      refine d_index rfl rfl rfl rfl rfl rfl (by omega) (strs_get _ i c') rfl ?_
      repeat first|(apply gO;first|(apply x1;apply r0;apply r0)|(apply x2;apply r0;(with_reducible repeat first|assumption|apply q0|exact q1 ‹_›|exact q2 ‹_›|(apply q3;first|assumption|exact n1 ‹_› ‹_›|exact n2 ‹_› ‹_›|exact n3 ‹_› ‹_›|exact n4 ‹_› ‹_›)|apply q4);apply r0)|(apply x3;apply r0)|apply w4|(apply x5;apply r0)|(apply w3;apply r0;apply r0)|(apply xst;apply r0;(with_reducible repeat first|assumption|apply put_same|(apply get_put;first|assumption|exact n1 ‹_› ‹_›|exact n2 ‹_› ‹_›|exact n3 ‹_› ‹_›|exact n4 ‹_› ‹_›)|(apply get_prot;(simpa using (by first|assumption|exact n1 ‹_› ‹_›|exact n2 ‹_› ‹_›|exact n3 ‹_› ‹_›|exact n4 ‹_› ‹_›))));apply r0)|(apply x8;apply r0)|(apply x6;apply r0;omega)|(apply x7;apply r0;omega)|(apply xbd;apply r0)|(apply xbs;apply r0)|(apply x9;apply r0))|(apply gP;first|(apply y1;apply r0;apply r0)|apply y0|(apply take1_ok;apply r0)|(apply skip1_ok;apply r0)|(apply y4;apply r0)|(apply y2;apply r0;apply r0;(with_reducible repeat first|assumption|(apply prot_get;(focus(simp;done));(with_reducible repeat first|assumption|apply q0|exact q1 ‹_›|exact q2 ‹_›|(apply q3;first|assumption|exact n1 ‹_› ‹_›|exact n2 ‹_› ‹_›|exact n3 ‹_› ‹_›|exact n4 ‹_› ‹_›)|apply q4))|(apply get_put;first|assumption|exact n1 ‹_› ‹_›|exact n2 ‹_› ‹_›|exact n3 ‹_› ‹_›|exact n4 ‹_› ‹_›));apply r0)|(apply y3;apply r0;apply r0)|(apply y8;apply r0;apply r0)|(apply y6;apply r0;apply r0;omega)|(apply y7;apply r0;apply r0;omega))|(apply gW;first|apply w6|apply w7|(apply w8;apply r0)|(apply w9;apply r0)|apply wa|apply wd|apply wb|apply wc|apply wk)|apply w5|apply wl|apply wg|apply we|apply wf|apply wh|(apply wi;apply r0)|apply wj|apply wm|apply wn
      refine d_index rfl rfl rfl rfl rfl rfl (by omega) (strs_get _ k c2) rfl ?_
      repeat first|(apply gO;first|(apply x1;apply r0;apply r0)|(apply x2;apply r0;(with_reducible repeat first|assumption|apply q0|exact q1 ‹_›|exact q2 ‹_›|(apply q3;first|assumption|exact n1 ‹_› ‹_›|exact n2 ‹_› ‹_›|exact n3 ‹_› ‹_›|exact n4 ‹_› ‹_›)|apply q4);apply r0)|(apply x3;apply r0)|apply w4|(apply x5;apply r0)|(apply w3;apply r0;apply r0)|(apply xst;apply r0;(with_reducible repeat first|assumption|apply put_same|(apply get_put;first|assumption|exact n1 ‹_› ‹_›|exact n2 ‹_› ‹_›|exact n3 ‹_› ‹_›|exact n4 ‹_› ‹_›)|(apply get_prot;(simpa using (by first|assumption|exact n1 ‹_› ‹_›|exact n2 ‹_› ‹_›|exact n3 ‹_› ‹_›|exact n4 ‹_› ‹_›))));apply r0)|(apply x8;apply r0)|(apply x6;apply r0;omega)|(apply x7;apply r0;omega)|(apply xbd;apply r0)|(apply xbs;apply r0)|(apply x9;apply r0))|(apply gP;first|(apply y1;apply r0;apply r0)|apply y0|(apply take1_ok;apply r0)|(apply skip1_ok;apply r0)|(apply y4;apply r0)|(apply y2;apply r0;apply r0;(with_reducible repeat first|assumption|(apply prot_get;(focus(simp;done));(with_reducible repeat first|assumption|apply q0|exact q1 ‹_›|exact q2 ‹_›|(apply q3;first|assumption|exact n1 ‹_› ‹_›|exact n2 ‹_› ‹_›|exact n3 ‹_› ‹_›|exact n4 ‹_› ‹_›)|apply q4))|(apply get_put;first|assumption|exact n1 ‹_› ‹_›|exact n2 ‹_› ‹_›|exact n3 ‹_› ‹_›|exact n4 ‹_› ‹_›));apply r0)|(apply y3;apply r0;apply r0)|(apply y8;apply r0;apply r0)|(apply y6;apply r0;apply r0;omega)|(apply y7;apply r0;apply r0;omega))|(apply gW;first|apply w6|apply w7|(apply w8;apply r0)|(apply w9;apply r0)|apply wa|apply wd|apply wb|apply wc|apply wk)|apply w5|apply wl|apply wg|apply we|apply wf|apply wh|(apply wi;apply r0)|apply wj|apply wm|apply wn
      refine less_c (a := l[i]) (by omega) ?_
      repeat first|(apply gO;first|(apply x1;apply r0;apply r0)|(apply x2;apply r0;(with_reducible repeat first|assumption|apply q0|exact q1 ‹_›|exact q2 ‹_›|(apply q3;first|assumption|exact n1 ‹_› ‹_›|exact n2 ‹_› ‹_›|exact n3 ‹_› ‹_›|exact n4 ‹_› ‹_›)|apply q4);apply r0)|(apply x3;apply r0)|apply w4|(apply x5;apply r0)|(apply w3;apply r0;apply r0)|(apply xst;apply r0;(with_reducible repeat first|assumption|apply put_same|(apply get_put;first|assumption|exact n1 ‹_› ‹_›|exact n2 ‹_› ‹_›|exact n3 ‹_› ‹_›|exact n4 ‹_› ‹_›)|(apply get_prot;(simpa using (by first|assumption|exact n1 ‹_› ‹_›|exact n2 ‹_› ‹_›|exact n3 ‹_› ‹_›|exact n4 ‹_› ‹_›))));apply r0)|(apply x8;apply r0)|(apply x6;apply r0;omega)|(apply x7;apply r0;omega)|(apply xbd;apply r0)|(apply xbs;apply r0)|(apply x9;apply r0))|(apply gP;first|(apply y1;apply r0;apply r0)|apply y0|(apply take1_ok;apply r0)|(apply skip1_ok;apply r0)|(apply y4;apply r0)|(apply y2;apply r0;apply r0;(with_reducible repeat first|assumption|(apply prot_get;(focus(simp;done));(with_reducible repeat first|assumption|apply q0|exact q1 ‹_›|exact q2 ‹_›|(apply q3;first|assumption|exact n1 ‹_› ‹_›|exact n2 ‹_› ‹_›|exact n3 ‹_› ‹_›|exact n4 ‹_› ‹_›)|apply q4))|(apply get_put;first|assumption|exact n1 ‹_› ‹_›|exact n2 ‹_› ‹_›|exact n3 ‹_› ‹_›|exact n4 ‹_› ‹_›));apply r0)|(apply y3;apply r0;apply r0)|(apply y8;apply r0;apply r0)|(apply y6;apply r0;apply r0;omega)|(apply y7;apply r0;apply r0;omega))|(apply gW;first|apply w6|apply w7|(apply w8;apply r0)|(apply w9;apply r0)|apply wa|apply wd|apply wb|apply wc|apply wk)|apply w5|apply wl|apply wg|apply we|apply wf|apply wh|(apply wi;apply r0)|apply wj|apply wm|apply wn
      first | (refine s_gsplit rfl rfl (fun e1 => ?_) (fun e1 => ?_) <;> (first | replace e1 := of_decide_eq_true e1 | replace e1 := of_decide_eq_false e1 | replace e1 := not_t e1 | replace e1 := not_f e1 | skip)) | (refine d_split rfl rfl rfl (fun e1 => ?_) (fun e1 => ?_) <;> (first | replace e1 := of_decide_eq_true e1 | replace e1 := of_decide_eq_false e1 | replace e1 := not_t e1 | replace e1 := not_f e1 | skip))
      case refine_1 =>
        repeat first|(apply gO;first|(apply x1;apply r0;apply r0)|(apply x2;apply r0;(with_reducible repeat first|assumption|apply q0|exact q1 ‹_›|exact q2 ‹_›|(apply q3;first|assumption|exact n1 ‹_› ‹_›|exact n2 ‹_› ‹_›|exact n3 ‹_› ‹_›|exact n4 ‹_› ‹_›)|apply q4);apply r0)|(apply x3;apply r0)|apply w4|(apply x5;apply r0)|(apply w3;apply r0;apply r0)|(apply xst;apply r0;(with_reducible repeat first|assumption|apply put_same|(apply get_put;first|assumption|exact n1 ‹_› ‹_›|exact n2 ‹_› ‹_›|exact n3 ‹_› ‹_›|exact n4 ‹_› ‹_›)|(apply get_prot;(simpa using (by first|assumption|exact n1 ‹_› ‹_›|exact n2 ‹_› ‹_›|exact n3 ‹_› ‹_›|exact n4 ‹_› ‹_›))));apply r0)|(apply x8;apply r0)|(apply x6;apply r0;omega)|(apply x7;apply r0;omega)|(apply xbd;apply r0)|(apply xbs;apply r0)|(apply x9;apply r0))|(apply gW;first|apply w6|apply w7|(apply w8;apply r0)|(apply w9;apply r0)|apply wa|apply wd|apply wb|apply wc|apply wk)|apply w5|apply wl|apply wg|apply we|apply wf|apply wh|(apply wi;apply r0)|apply wj|apply wm|apply wn
        refine aw_cond rfl (fun e2 => ?_) (fun e2 => ?_) <;> (first | replace e2 := of_decide_eq_true e2 | replace e2 := of_decide_eq_false e2 | replace e2 := not_t e2 | replace e2 := not_f e2 | skip)
        · have e2' : d = false := by simpa using e2
          subst e2'
          repeat first|(apply gO;first|(apply x1;apply r0;apply r0)|(apply x2;apply r0;(with_reducible repeat first|assumption|apply q0|exact q1 ‹_›|exact q2 ‹_›|(apply q3;first|assumption|exact n1 ‹_› ‹_›|exact n2 ‹_› ‹_›|exact n3 ‹_› ‹_›|exact n4 ‹_› ‹_›)|apply q4);apply r0)|(apply x3;apply r0)|apply w4|(apply x5;apply r0)|(apply w3;apply r0;apply r0)|(apply xst;apply r0;(with_reducible repeat first|assumption|apply put_same|(apply get_put;first|assumption|exact n1 ‹_› ‹_›|exact n2 ‹_› ‹_›|exact n3 ‹_› ‹_›|exact n4 ‹_› ‹_›)|(apply get_prot;(simpa using (by first|assumption|exact n1 ‹_› ‹_›|exact n2 ‹_› ‹_›|exact n3 ‹_› ‹_›|exact n4 ‹_› ‹_›))));apply r0)|(apply x8;apply r0)|(apply x6;apply r0;omega)|(apply x7;apply r0;omega)|(apply xbd;apply r0)|(apply xbs;apply r0)|(apply x9;apply r0))|(apply gW;first|apply w6|apply w7|(apply w8;apply r0)|(apply w9;apply r0)|apply wa|apply wd|apply wb|apply wc|apply wk)|apply w5|apply wl|apply wg|apply we|apply wf|apply wh|(apply wi;apply r0)|apply wj|apply wm|apply wn
          refine s_index tk rfl rfl rfl rfl (by omega) (strs_get _ i c') rfl ?_
          repeat first|(apply gO;first|(apply x1;apply r0;apply r0)|(apply x2;apply r0;(with_reducible repeat first|assumption|apply q0|exact q1 ‹_›|exact q2 ‹_›|(apply q3;first|assumption|exact n1 ‹_› ‹_›|exact n2 ‹_› ‹_›|exact n3 ‹_› ‹_›|exact n4 ‹_› ‹_›)|apply q4);apply r0)|(apply x3;apply r0)|apply w4|(apply x5;apply r0)|(apply w3;apply r0;apply r0)|(apply xst;apply r0;(with_reducible repeat first|assumption|apply put_same|(apply get_put;first|assumption|exact n1 ‹_› ‹_›|exact n2 ‹_› ‹_›|exact n3 ‹_› ‹_›|exact n4 ‹_› ‹_›)|(apply get_prot;(simpa using (by first|assumption|exact n1 ‹_› ‹_›|exact n2 ‹_› ‹_›|exact n3 ‹_› ‹_›|exact n4 ‹_› ‹_›))));apply r0)|(apply x8;apply r0)|(apply x6;apply r0;omega)|(apply x7;apply r0;omega)|(apply xbd;apply r0)|(apply xbs;apply r0)|(apply x9;apply r0))|(apply gW;first|apply w6|apply w7|(apply w8;apply r0)|(apply w9;apply r0)|apply wa|apply wd|apply wb|apply wc|apply wk)|apply w5|apply wl|apply wg|apply we|apply wf|apply wh|(apply wi;apply r0)|apply wj|apply wm|apply wn
          refine s_append tk rfl rfl rfl rfl rfl (uni_strs _) (uni_one1 _) rfl hm.own he1 (by rw [strs_len]; simp only [List.length_append, List.length_cons, List.length_nil]; omega) (fun p1 ha1 he1 => ?_)
          replace hm := hm.step ha1
          clear ha1
          generalize ((_ : AHeap).free _).own p1 = Z at hm ⊢
          rw [strs_app _ l[i]]
          repeat first|(apply gO;first|(apply x1;apply r0;apply r0)|(apply x2;apply r0;(with_reducible repeat first|assumption|apply q0|exact q1 ‹_›|exact q2 ‹_›|(apply q3;first|assumption|exact n1 ‹_› ‹_›|exact n2 ‹_› ‹_›|exact n3 ‹_› ‹_›|exact n4 ‹_› ‹_›)|apply q4);apply r0)|(apply x3;apply r0)|apply w4|(apply x5;apply r0)|(apply w3;apply r0;apply r0)|(apply xst;apply r0;(with_reducible repeat first|assumption|apply put_same|(apply get_put;first|assumption|exact n1 ‹_› ‹_›|exact n2 ‹_› ‹_›|exact n3 ‹_› ‹_›|exact n4 ‹_› ‹_›)|(apply get_prot;(simpa using (by first|assumption|exact n1 ‹_› ‹_›|exact n2 ‹_› ‹_›|exact n3 ‹_› ‹_›|exact n4 ‹_› ‹_›))));apply r0)|(apply x8;apply r0)|(apply x6;apply r0;omega)|(apply x7;apply r0;omega)|(apply xbd;apply r0)|(apply xbs;apply r0)|(apply x9;apply r0))|(apply gW;first|apply w6|apply w7|(apply w8;apply r0)|(apply w9;apply r0)|apply wa|apply wd|apply wb|apply wc|apply wk)|apply w5|apply wl|apply wg|apply we|apply wf|apply wh|(apply wi;apply r0)|apply wj|apply wm|apply wn
          refine s_index tk rfl rfl rfl rfl (by omega) (strs_get _ k c2) rfl ?_
          repeat first|(apply gO;first|(apply x1;apply r0;apply r0)|(apply x2;apply r0;(with_reducible repeat first|assumption|apply q0|exact q1 ‹_›|exact q2 ‹_›|(apply q3;first|assumption|exact n1 ‹_› ‹_›|exact n2 ‹_› ‹_›|exact n3 ‹_› ‹_›|exact n4 ‹_› ‹_›)|apply q4);apply r0)|(apply x3;apply r0)|apply w4|(apply x5;apply r0)|(apply w3;apply r0;apply r0)|(apply xst;apply r0;(with_reducible repeat first|assumption|apply put_same|(apply get_put;first|assumption|exact n1 ‹_› ‹_›|exact n2 ‹_› ‹_›|exact n3 ‹_› ‹_›|exact n4 ‹_› ‹_›)|(apply get_prot;(simpa using (by first|assumption|exact n1 ‹_› ‹_›|exact n2 ‹_› ‹_›|exact n3 ‹_› ‹_›|exact n4 ‹_› ‹_›))));apply r0)|(apply x8;apply r0)|(apply x6;apply r0;omega)|(apply x7;apply r0;omega)|(apply xbd;apply r0)|(apply xbs;apply r0)|(apply x9;apply r0))|(apply gW;first|apply w6|apply w7|(apply w8;apply r0)|(apply w9;apply r0)|apply wa|apply wd|apply wb|apply wc|apply wk)|apply w5|apply wl|apply wg|apply we|apply wf|apply wh|(apply wi;apply r0)|apply wj|apply wm|apply wn
          refine s_append tk rfl rfl rfl rfl rfl (uni_strs _) (uni_one1 _) rfl hm.own he1 (by rw [strs_len]; simp only [List.length_append, List.length_cons, List.length_nil]; omega) (fun p1 ha1 he1 => ?_)
          replace hm := hm.step ha1
          clear ha1
          generalize ((_ : AHeap).free _).own p1 = Z at hm ⊢
          rw [strs_app _ (sortTo l i)[k]]
          repeat first|(apply gO;first|(apply x1;apply r0;apply r0)|(apply x2;apply r0;(with_reducible repeat first|assumption|apply q0|exact q1 ‹_›|exact q2 ‹_›|(apply q3;first|assumption|exact n1 ‹_› ‹_›|exact n2 ‹_› ‹_›|exact n3 ‹_› ‹_›|exact n4 ‹_› ‹_›)|apply q4);apply r0)|(apply x3;apply r0)|apply w4|(apply x5;apply r0)|(apply w3;apply r0;apply r0)|(apply xst;apply r0;(with_reducible repeat first|assumption|apply put_same|(apply get_put;first|assumption|exact n1 ‹_› ‹_›|exact n2 ‹_› ‹_›|exact n3 ‹_› ‹_›|exact n4 ‹_› ‹_›)|(apply get_prot;(simpa using (by first|assumption|exact n1 ‹_› ‹_›|exact n2 ‹_› ‹_›|exact n3 ‹_› ‹_›|exact n4 ‹_› ‹_›))));apply r0)|(apply x8;apply r0)|(apply x6;apply r0;omega)|(apply x7;apply r0;omega)|(apply xbd;apply r0)|(apply xbs;apply r0)|(apply x9;apply r0))|(apply gW;first|apply w6|apply w7|(apply w8;apply r0)|(apply w9;apply r0)|apply wa|apply wd|apply wb|apply wc|apply wk)|apply w5|apply wl|apply wg|apply we|apply wf|apply wh|(apply wi;apply r0)|apply wj|apply wm|apply wn
          have hf : sTo l[i] (sortTo l i) (k + 1) = (A ++ [l[i]] ++ [(sortTo l i)[k]], true) := by rw [hstep]; simp [sStep, *]
          refine ⟨(k + 1, p1, Z), ⟨c2, hm, he1⟩, by simp only; omega, ?_, AHeap.sub_refl _⟩
          simp only [hf]
          exact (by repeat (first | exact Fr.sub_nil _ | refine Fr.sub_cons rfl ?_))
        · have e2' : d = true := by simpa using e2
          subst e2'
          repeat first|(apply gO;first|(apply x1;apply r0;apply r0)|(apply x2;apply r0;(with_reducible repeat first|assumption|apply q0|exact q1 ‹_›|exact q2 ‹_›|(apply q3;first|assumption|exact n1 ‹_› ‹_›|exact n2 ‹_› ‹_›|exact n3 ‹_› ‹_›|exact n4 ‹_› ‹_›)|apply q4);apply r0)|(apply x3;apply r0)|apply w4|(apply x5;apply r0)|(apply w3;apply r0;apply r0)|(apply xst;apply r0;(with_reducible repeat first|assumption|apply put_same|(apply get_put;first|assumption|exact n1 ‹_› ‹_›|exact n2 ‹_› ‹_›|exact n3 ‹_› ‹_›|exact n4 ‹_› ‹_›)|(apply get_prot;(simpa using (by first|assumption|exact n1 ‹_› ‹_›|exact n2 ‹_› ‹_›|exact n3 ‹_› ‹_›|exact n4 ‹_› ‹_›))));apply r0)|(apply x8;apply r0)|(apply x6;apply r0;omega)|(apply x7;apply r0;omega)|(apply xbd;apply r0)|(apply xbs;apply r0)|(apply x9;apply r0))|(apply gW;first|apply w6|apply w7|(apply w8;apply r0)|(apply w9;apply r0)|apply wa|apply wd|apply wb|apply wc|apply wk)|apply w5|apply wl|apply wg|apply we|apply wf|apply wh|(apply wi;apply r0)|apply wj|apply wm|apply wn
          refine s_index tk rfl rfl rfl rfl (by omega) (strs_get _ k c2) rfl ?_
          repeat first|(apply gO;first|(apply x1;apply r0;apply r0)|(apply x2;apply r0;(with_reducible repeat first|assumption|apply q0|exact q1 ‹_›|exact q2 ‹_›|(apply q3;first|assumption|exact n1 ‹_› ‹_›|exact n2 ‹_› ‹_›|exact n3 ‹_› ‹_›|exact n4 ‹_› ‹_›)|apply q4);apply r0)|(apply x3;apply r0)|apply w4|(apply x5;apply r0)|(apply w3;apply r0;apply r0)|(apply xst;apply r0;(with_reducible repeat first|assumption|apply put_same|(apply get_put;first|assumption|exact n1 ‹_› ‹_›|exact n2 ‹_› ‹_›|exact n3 ‹_› ‹_›|exact n4 ‹_› ‹_›)|(apply get_prot;(simpa using (by first|assumption|exact n1 ‹_› ‹_›|exact n2 ‹_› ‹_›|exact n3 ‹_› ‹_›|exact n4 ‹_› ‹_›))));apply r0)|(apply x8;apply r0)|(apply x6;apply r0;omega)|(apply x7;apply r0;omega)|(apply xbd;apply r0)|(apply xbs;apply r0)|(apply x9;apply r0))|(apply gW;first|apply w6|apply w7|(apply w8;apply r0)|(apply w9;apply r0)|apply wa|apply wd|apply wb|apply wc|apply wk)|apply w5|apply wl|apply wg|apply we|apply wf|apply wh|(apply wi;apply r0)|apply wj|apply wm|apply wn
          refine s_append tk rfl rfl rfl rfl rfl (uni_strs _) (uni_one1 _) rfl hm.own he1 (by rw [strs_len]; simp only [List.length_append, List.length_cons, List.length_nil]; omega) (fun p1 ha1 he1 => ?_)
          replace hm := hm.step ha1
          clear ha1
          generalize ((_ : AHeap).free _).own p1 = Z at hm ⊢
          rw [strs_app _ (sortTo l i)[k]]
          repeat first|(apply gO;first|(apply x1;apply r0;apply r0)|(apply x2;apply r0;(with_reducible repeat first|assumption|apply q0|exact q1 ‹_›|exact q2 ‹_›|(apply q3;first|assumption|exact n1 ‹_› ‹_›|exact n2 ‹_› ‹_›|exact n3 ‹_› ‹_›|exact n4 ‹_› ‹_›)|apply q4);apply r0)|(apply x3;apply r0)|apply w4|(apply x5;apply r0)|(apply w3;apply r0;apply r0)|(apply xst;apply r0;(with_reducible repeat first|assumption|apply put_same|(apply get_put;first|assumption|exact n1 ‹_› ‹_›|exact n2 ‹_› ‹_›|exact n3 ‹_› ‹_›|exact n4 ‹_› ‹_›)|(apply get_prot;(simpa using (by first|assumption|exact n1 ‹_› ‹_›|exact n2 ‹_› ‹_›|exact n3 ‹_› ‹_›|exact n4 ‹_› ‹_›))));apply r0)|(apply x8;apply r0)|(apply x6;apply r0;omega)|(apply x7;apply r0;omega)|(apply xbd;apply r0)|(apply xbs;apply r0)|(apply x9;apply r0))|(apply gW;first|apply w6|apply w7|(apply w8;apply r0)|(apply w9;apply r0)|apply wa|apply wd|apply wb|apply wc|apply wk)|apply w5|apply wl|apply wg|apply we|apply wf|apply wh|(apply wi;apply r0)|apply wj|apply wm|apply wn
          have hf : sTo l[i] (sortTo l i) (k + 1) = (A ++ [(sortTo l i)[k]], true) := by rw [hstep]; simp [sStep, *]
          refine ⟨(k + 1, p1, Z), ⟨c2, hm, he1⟩, by simp only; omega, ?_, AHeap.sub_refl _⟩
          simp only [hf]
          exact (by repeat (first | exact Fr.sub_nil _ | refine Fr.sub_cons rfl ?_))
      repeat first|(apply gO;first|(apply x1;apply r0;apply r0)|(apply x2;apply r0;(with_reducible repeat first|assumption|apply q0|exact q1 ‹_›|exact q2 ‹_›|(apply q3;first|assumption|exact n1 ‹_› ‹_›|exact n2 ‹_› ‹_›|exact n3 ‹_› ‹_›|exact n4 ‹_› ‹_›)|apply q4);apply r0)|(apply x3;apply r0)|apply w4|(apply x5;apply r0)|(apply w3;apply r0;apply r0)|(apply xst;apply r0;(with_reducible repeat first|assumption|apply put_same|(apply get_put;first|assumption|exact n1 ‹_› ‹_›|exact n2 ‹_› ‹_›|exact n3 ‹_› ‹_›|exact n4 ‹_› ‹_›)|(apply get_prot;(simpa using (by first|assumption|exact n1 ‹_› ‹_›|exact n2 ‹_› ‹_›|exact n3 ‹_› ‹_›|exact n4 ‹_› ‹_›))));apply r0)|(apply x8;apply r0)|(apply x6;apply r0;omega)|(apply x7;apply r0;omega)|(apply xbd;apply r0)|(apply xbs;apply r0)|(apply x9;apply r0))|(apply gW;first|apply w6|apply w7|(apply w8;apply r0)|(apply w9;apply r0)|apply wa|apply wd|apply wb|apply wc|apply wk)|apply w5|apply wl|apply wg|apply we|apply wf|apply wh|(apply wi;apply r0)|apply wj|apply wm|apply wn
      refine s_index tk rfl rfl rfl rfl (by omega) (strs_get _ k c2) rfl ?_
      repeat first|(apply gO;first|(apply x1;apply r0;apply r0)|(apply x2;apply r0;(with_reducible repeat first|assumption|apply q0|exact q1 ‹_›|exact q2 ‹_›|(apply q3;first|assumption|exact n1 ‹_› ‹_›|exact n2 ‹_› ‹_›|exact n3 ‹_› ‹_›|exact n4 ‹_› ‹_›)|apply q4);apply r0)|(apply x3;apply r0)|apply w4|(apply x5;apply r0)|(apply w3;apply r0;apply r0)|(apply xst;apply r0;(with_reducible repeat first|assumption|apply put_same|(apply get_put;first|assumption|exact n1 ‹_› ‹_›|exact n2 ‹_› ‹_›|exact n3 ‹_› ‹_›|exact n4 ‹_› ‹_›)|(apply get_prot;(simpa using (by first|assumption|exact n1 ‹_› ‹_›|exact n2 ‹_› ‹_›|exact n3 ‹_› ‹_›|exact n4 ‹_› ‹_›))));apply r0)|(apply x8;apply r0)|(apply x6;apply r0;omega)|(apply x7;apply r0;omega)|(apply xbd;apply r0)|(apply xbs;apply r0)|(apply x9;apply r0))|(apply gW;first|apply w6|apply w7|(apply w8;apply r0)|(apply w9;apply r0)|apply wa|apply wd|apply wb|apply wc|apply wk)|apply w5|apply wl|apply wg|apply we|apply wf|apply wh|(apply wi;apply r0)|apply wj|apply wm|apply wn
      refine s_append tk rfl rfl rfl rfl rfl (uni_strs _) (uni_one1 _) rfl hm.own he1 (by rw [strs_len]; simp only [List.length_append, List.length_cons, List.length_nil]; omega) (fun p1 ha1 he1 => ?_)
      replace hm := hm.step ha1
      clear ha1
      generalize ((_ : AHeap).free _).own p1 = Z at hm ⊢
      rw [strs_app _ (sortTo l i)[k]]
      repeat first|(apply gO;first|(apply x1;apply r0;apply r0)|(apply x2;apply r0;(with_reducible repeat first|assumption|apply q0|exact q1 ‹_›|exact q2 ‹_›|(apply q3;first|assumption|exact n1 ‹_› ‹_›|exact n2 ‹_› ‹_›|exact n3 ‹_› ‹_›|exact n4 ‹_› ‹_›)|apply q4);apply r0)|(apply x3;apply r0)|apply w4|(apply x5;apply r0)|(apply w3;apply r0;apply r0)|(apply xst;apply r0;(with_reducible repeat first|assumption|apply put_same|(apply get_put;first|assumption|exact n1 ‹_› ‹_›|exact n2 ‹_› ‹_›|exact n3 ‹_› ‹_›|exact n4 ‹_› ‹_›)|(apply get_prot;(simpa using (by first|assumption|exact n1 ‹_› ‹_›|exact n2 ‹_› ‹_›|exact n3 ‹_› ‹_›|exact n4 ‹_› ‹_›))));apply r0)|(apply x8;apply r0)|(apply x6;apply r0;omega)|(apply x7;apply r0;omega)|(apply xbd;apply r0)|(apply xbs;apply r0)|(apply x9;apply r0))|(apply gW;first|apply w6|apply w7|(apply w8;apply r0)|(apply w9;apply r0)|apply wa|apply wd|apply wb|apply wc|apply wk)|apply w5|apply wl|apply wg|apply we|apply wf|apply wh|(apply wi;apply r0)|apply wj|apply wm|apply wn
      have hf : sTo l[i] (sortTo l i) (k + 1) = (A ++ [(sortTo l i)[k]], d) := by rw [hstep]; simp [sStep, *]
      refine ⟨(k + 1, p1, Z), ⟨c2, hm, he1⟩, by simp only; omega, ?_, AHeap.sub_refl _⟩
      simp only [hf]
      exact (by repeat (first | exact Fr.sub_nil _ | refine Fr.sub_cons rfl ?_))
    · have hke : k = (sortTo l i).length := by omega
      subst hke
      unfold sEnd at hso
      generalize sTo l[i] (sortTo l i) (sortTo l i).length = I at hA hso ⊢
      obtain ⟨A, d⟩ := I
      simp only at hA hso
      have hA' : A.length ≤ (sortTo l i).length + 1 := by split at hA <;> omega
      repeat first|(apply gO;first|(apply x1;apply r0;apply r0)|(apply x2;apply r0;(with_reducible repeat first|assumption|apply q0|exact q1 ‹_›|exact q2 ‹_›|(apply q3;first|assumption|exact n1 ‹_› ‹_›|exact n2 ‹_› ‹_›|exact n3 ‹_› ‹_›|exact n4 ‹_› ‹_›)|apply q4);apply r0)|(apply x3;apply r0)|apply w4|(apply x5;apply r0)|(apply w3;apply r0;apply r0)|(apply xst;apply r0;(with_reducible repeat first|assumption|apply put_same|(apply get_put;first|assumption|exact n1 ‹_› ‹_›|exact n2 ‹_› ‹_›|exact n3 ‹_› ‹_›|exact n4 ‹_› ‹_›)|(apply get_prot;(simpa using (by first|assumption|exact n1 ‹_› ‹_›|exact n2 ‹_› ‹_›|exact n3 ‹_› ‹_›|exact n4 ‹_› ‹_›))));apply r0)|(apply x8;apply r0)|(apply x6;apply r0;omega)|(apply x7;apply r0;omega)|(apply xbd;apply r0)|(apply xbs;apply r0)|(apply x9;apply r0))|(apply gW;first|apply w6|apply w7|(apply w8;apply r0)|(apply w9;apply r0)|apply wa|apply wd|apply wb|apply wc|apply wk)|apply w5|apply wl|apply wg|apply we|apply wf|apply wh|(apply wi;apply r0)|apply wj|apply wm|apply wn
      refine aw_cond rfl (fun e2 => ?_) (fun e2 => ?_) <;> (first | replace e2 := of_decide_eq_true e2 | replace e2 := of_decide_eq_false e2 | replace e2 := not_t e2 | replace e2 := not_f e2 | skip)
      · have e2' : d = false := by simpa using e2
        subst e2'
        rw [if_neg (by decide)] at hso
        repeat first|(apply gO;first|(apply x1;apply r0;apply r0)|(apply x2;apply r0;(with_reducible repeat first|assumption|apply q0|exact q1 ‹_›|exact q2 ‹_›|(apply q3;first|assumption|exact n1 ‹_› ‹_›|exact n2 ‹_› ‹_›|exact n3 ‹_› ‹_›|exact n4 ‹_› ‹_›)|apply q4);apply r0)|(apply x3;apply r0)|apply w4|(apply x5;apply r0)|(apply w3;apply r0;apply r0)|(apply xst;apply r0;(with_reducible repeat first|assumption|apply put_same|(apply get_put;first|assumption|exact n1 ‹_› ‹_›|exact n2 ‹_› ‹_›|exact n3 ‹_› ‹_›|exact n4 ‹_› ‹_›)|(apply get_prot;(simpa using (by first|assumption|exact n1 ‹_› ‹_›|exact n2 ‹_› ‹_›|exact n3 ‹_› ‹_›|exact n4 ‹_› ‹_›))));apply r0)|(apply x8;apply r0)|(apply x6;apply r0;omega)|(apply x7;apply r0;omega)|(apply xbd;apply r0)|(apply xbs;apply r0)|(apply x9;apply r0))|(apply gW;first|apply w6|apply w7|(apply w8;apply r0)|(apply w9;apply r0)|apply wa|apply wd|apply wb|apply wc|apply wk)|apply w5|apply wl|apply wg|apply we|apply wf|apply wh|(apply wi;apply r0)|apply wj|apply wm|apply wn
        refine s_index tk rfl rfl rfl rfl (by omega) (strs_get _ i c') rfl ?_
        repeat first|(apply gO;first|(apply x1;apply r0;apply r0)|(apply x2;apply r0;(with_reducible repeat first|assumption|apply q0|exact q1 ‹_›|exact q2 ‹_›|(apply q3;first|assumption|exact n1 ‹_› ‹_›|exact n2 ‹_› ‹_›|exact n3 ‹_› ‹_›|exact n4 ‹_› ‹_›)|apply q4);apply r0)|(apply x3;apply r0)|apply w4|(apply x5;apply r0)|(apply w3;apply r0;apply r0)|(apply xst;apply r0;(with_reducible repeat first|assumption|apply put_same|(apply get_put;first|assumption|exact n1 ‹_› ‹_›|exact n2 ‹_› ‹_›|exact n3 ‹_› ‹_›|exact n4 ‹_› ‹_›)|(apply get_prot;(simpa using (by first|assumption|exact n1 ‹_› ‹_›|exact n2 ‹_› ‹_›|exact n3 ‹_› ‹_›|exact n4 ‹_› ‹_›))));apply r0)|(apply x8;apply r0)|(apply x6;apply r0;omega)|(apply x7;apply r0;omega)|(apply xbd;apply r0)|(apply xbs;apply r0)|(apply x9;apply r0))|(apply gW;first|apply w6|apply w7|(apply w8;apply r0)|(apply w9;apply r0)|apply wa|apply wd|apply wb|apply wc|apply wk)|apply w5|apply wl|apply wg|apply we|apply wf|apply wh|(apply wi;apply r0)|apply wj|apply wm|apply wn
        refine s_append tk rfl rfl rfl rfl rfl (uni_strs _) (uni_one1 _) rfl hm.own he1 (by rw [strs_len]; simp only [List.length_append, List.length_cons, List.length_nil]; omega) (fun p1 ha1 he1 => ?_)
        replace hm := hm.step ha1
        clear ha1
        generalize ((_ : AHeap).free _).own p1 = Z at hm ⊢
        rw [strs_app _ l[i]]
        repeat first|(apply gO;first|(apply x1;apply r0;apply r0)|(apply x2;apply r0;(with_reducible repeat first|assumption|apply q0|exact q1 ‹_›|exact q2 ‹_›|(apply q3;first|assumption|exact n1 ‹_› ‹_›|exact n2 ‹_› ‹_›|exact n3 ‹_› ‹_›|exact n4 ‹_› ‹_›)|apply q4);apply r0)|(apply x3;apply r0)|apply w4|(apply x5;apply r0)|(apply w3;apply r0;apply r0)|(apply xst;apply r0;(with_reducible repeat first|assumption|apply put_same|(apply get_put;first|assumption|exact n1 ‹_› ‹_›|exact n2 ‹_› ‹_›|exact n3 ‹_› ‹_›|exact n4 ‹_› ‹_›)|(apply get_prot;(simpa using (by first|assumption|exact n1 ‹_› ‹_›|exact n2 ‹_› ‹_›|exact n3 ‹_› ‹_›|exact n4 ‹_› ‹_›))));apply r0)|(apply x8;apply r0)|(apply x6;apply r0;omega)|(apply x7;apply r0;omega)|(apply xbd;apply r0)|(apply xbs;apply r0)|(apply x9;apply r0))|(apply gW;first|apply w6|apply w7|(apply w8;apply r0)|(apply w9;apply r0)|apply wa|apply wd|apply wb|apply wc|apply wk)|apply w5|apply wl|apply wg|apply we|apply wf|apply wh|(apply wi;apply r0)|apply wj|apply wm|apply wn
        refine ⟨(i + 1, p1, Z), ⟨c', fun x hx => (hm.old x hx).1⟩, by simp only; omega, ?_, AHeap.sub_refl _⟩
        simp only [hso]
        exact (by repeat (first | exact Fr.sub_nil _ | refine Fr.sub_cons rfl ?_))
      · have e2' : d = true := by simpa using e2
        subst e2'
        rw [if_pos rfl] at hso
        repeat first|(apply gO;first|(apply x1;apply r0;apply r0)|(apply x2;apply r0;(with_reducible repeat first|assumption|apply q0|exact q1 ‹_›|exact q2 ‹_›|(apply q3;first|assumption|exact n1 ‹_› ‹_›|exact n2 ‹_› ‹_›|exact n3 ‹_› ‹_›|exact n4 ‹_› ‹_›)|apply q4);apply r0)|(apply x3;apply r0)|apply w4|(apply x5;apply r0)|(apply w3;apply r0;apply r0)|(apply xst;apply r0;(with_reducible repeat first|assumption|apply put_same|(apply get_put;first|assumption|exact n1 ‹_› ‹_›|exact n2 ‹_› ‹_›|exact n3 ‹_› ‹_›|exact n4 ‹_› ‹_›)|(apply get_prot;(simpa using (by first|assumption|exact n1 ‹_› ‹_›|exact n2 ‹_› ‹_›|exact n3 ‹_› ‹_›|exact n4 ‹_› ‹_›))));apply r0)|(apply x8;apply r0)|(apply x6;apply r0;omega)|(apply x7;apply r0;omega)|(apply xbd;apply r0)|(apply xbs;apply r0)|(apply x9;apply r0))|(apply gW;first|apply w6|apply w7|(apply w8;apply r0)|(apply w9;apply r0)|apply wa|apply wd|apply wb|apply wc|apply wk)|apply w5|apply wl|apply wg|apply we|apply wf|apply wh|(apply wi;apply r0)|apply wj|apply wm|apply wn
        refine ⟨(i + 1, on, Z), ⟨c', fun x hx => (hm.old x hx).1⟩, by simp only; omega, ?_, AHeap.sub_refl _⟩
        simp only [hso]
        exact (by repeat (first | exact Fr.sub_nil _ | refine Fr.sub_cons rfl ?_))
  · have hke : i = l.length := by omega
    subst hke
    repeat first|(apply gO;first|(apply x1;apply r0;apply r0)|(apply x2;apply r0;(with_reducible repeat first|assumption|apply q0|exact q1 ‹_›|exact q2 ‹_›|(apply q3;first|assumption|exact n1 ‹_› ‹_›|exact n2 ‹_› ‹_›|exact n3 ‹_› ‹_›|exact n4 ‹_› ‹_›)|apply q4);apply r0)|(apply x3;apply r0)|apply w4|(apply x5;apply r0)|(apply w3;apply r0;apply r0)|(apply xst;apply r0;(with_reducible repeat first|assumption|apply put_same|(apply get_put;first|assumption|exact n1 ‹_› ‹_›|exact n2 ‹_› ‹_›|exact n3 ‹_› ‹_›|exact n4 ‹_› ‹_›)|(apply get_prot;(simpa using (by first|assumption|exact n1 ‹_› ‹_›|exact n2 ‹_› ‹_›|exact n3 ‹_› ‹_›|exact n4 ‹_› ‹_›))));apply r0)|(apply x8;apply r0)|(apply x6;apply r0;omega)|(apply x7;apply r0;omega)|(apply xbd;apply r0)|(apply xbs;apply r0)|(apply x9;apply r0))|(apply gW;first|apply w6|apply w7|(apply w8;apply r0)|(apply w9;apply r0)|apply wa|apply wd|apply wb|apply wc|apply wk)|apply w5|apply wl|apply wg|apply we|apply wf|apply wh|(apply wi;apply r0)|apply wj|apply wm|apply wn
    exact rt1 (H' := H) rfl rfl (.sl _ _) (fun x p hx => ⟨p, (hY x (by rw [hx]; simp)).trans hx, .refl p⟩) hK
end Abs
end Go.Proofs.Ytmokoofibnoojaa
