import Derived.Test.YtpifnlodilcgkaaV1
import Derived.Test.YtpifnlodilcgkaaQ1
set_option linter.unusedVariables false
namespace Go.Proofs.Ytpifnlodilcgkaa
namespace Abs
set_option linter.unusedSimpArgs false
set_option maxRecDepth 10000
set_option maxHeartbeats 2000000
attribute [local irreducible] AOps AW AP ACalls thenQ inBlk noGoto

/-! ### two slices that grow beside a heap that stays -/
structure Own2 (X Y : AHeap) (o1 o2 : Own) : Prop where
  own1 : Owned Y o1
  own2 : Owned Y o2
  ne : ∀ b, tokB o1 = some b → tokB o2 ≠ some b
  old : ∀ x, X x ≠ none → Y x = X x ∧ tokB o1 ≠ some x ∧ tokB o2 ≠ some x
theorem Own2.swap {X Y : AHeap} {o1 o2 : Own} (h : Own2 X Y o1 o2) : Own2 X Y o2 o1 := ⟨h.own2, h.own1, fun b hb e => h.ne b e hb, fun x hx => ⟨(h.old x hx).1, (h.old x hx).2.2, (h.old x hx).2.1⟩⟩
theorem Own2.sub {X Y : AHeap} {o1 o2 : Own} (h : Own2 X Y o1 o2) : X.sub Y := fun x p hx => ⟨p, by rw [(h.old x (by rw [hx]; simp)).1]; exact hx, .refl p⟩
theorem Own2.get {X Y : AHeap} {o1 o2 : Own} (h : Own2 X Y o1 o2) {x : Nat} {p : HObj} (hx : X x = some p) : Y x = some p := by rw [(h.old x (by rw [hx]; simp)).1]; exact hx
theorem Own2.full (X : AHeap) : Own2 X X .full .full := ⟨trivial, trivial, (by intro b e; cases e), fun x _ => ⟨rfl, (by intro e; cases e), (by intro e; cases e)⟩⟩
theorem Own2.step {X Y : AHeap} {o1 o2 o' : Own} (h : Own2 X Y o1 o2) (ha : Apart (Y.free o1) o') : Own2 X ((Y.free o1).own o') o' o2 := by
  have hold : ∀ x p, Y x = some p → tokB o1 ≠ some x → ((Y.free o1).own o') x = Y x ∧ tokB o' ≠ some x := fun x p hY h2 => by
    have h3 := apart_ne ha hY h2
    exact ⟨free_own_get h2 h3, h3⟩
  refine ⟨owned_new ha, owned_get h.own2 fun b hb => ?_, fun b hb hb2 => ?_, fun x hx => ?_⟩
  · cases hYb : Y b with
    | none => exact absurd hYb (owned_some h.own2 hb)
    | some p => rw [(hold b p hYb (fun e => h.ne b e hb)).1, hYb]
  · cases hYb : Y b with
    | none => exact absurd hYb (owned_some h.own2 hb2)
    | some p => exact (hold b p hYb (fun e => h.ne b e hb2)).2 hb
  · obtain ⟨h1, h2, h3⟩ := h.old x hx
    cases hX : X x with
    | none => exact absurd hX hx
    | some p =>
      obtain ⟨h4, h5⟩ := hold x p (by rw [h1, hX]) h2
      exact ⟨by rw [h4, h1, hX], h5, h3⟩
/-! ### the document's With and Without -/
end Abs
end Go.Proofs.Ytpifnlodilcgkaa

set_option linter.unusedVariables false
namespace Go.Proofs.Ytpifnlodilcgkaa
namespace Abs
set_option linter.unusedSimpArgs false
set_option maxRecDepth 10000
set_option maxHeartbeats 2000000
attribute [local irreducible] AOps AW AP ACalls thenQ inBlk noGoto

/-! ### the document's Without -/
/-! ### lists of texts -/
end Abs
end Go.Proofs.Ytpifnlodilcgkaa

set_option linter.unusedVariables false
namespace Go.Proofs.Ytpifnlodilcgkaa
namespace Abs
set_option linter.unusedSimpArgs false
set_option maxRecDepth 10000
set_option maxHeartbeats 2000000
attribute [local irreducible] AOps AW AP ACalls thenQ inBlk noGoto

/-! ### node.Names -/
def entNames (l : List Ent) : List ByteArray := l.map (·.name)
theorem sortB_nil : sortB [] = [] := by simp [sortB]
/-- The state of a row that grows: none yet, or row b. -/
def rowV (k b cap : Nat) : AVal := if k = 0 then .sl [] .full else .row b 0 k cap
structure RowSt (X Y : AHeap) (l : List AVal) (b cap : Nat) (cs : List AVal) : Prop where
  old : ∀ x, X x ≠ none → Y x = X x ∧ (l ≠ [] → x ≠ b)
  row : l ≠ [] → Y b = some (.cells cs)
  head : l ≠ [] → cs.take l.length = l
  len : l ≠ [] → cs.length = cap
  cap : l ≠ [] → l.length ≤ cap
theorem RowSt.get {X Y : AHeap} {l cs : List AVal} {b cap x : Nat} {p : HObj} (h : RowSt X Y l b cap cs) (hx : X x = some p) : Y x = some p := by rw [(h.old x (by rw [hx]; simp)).1]; exact hx
theorem RowSt.sub {X Y : AHeap} {l cs : List AVal} {b cap : Nat} (h : RowSt X Y l b cap cs) : X.sub Y := fun x p hx => ⟨p, h.get hx, .refl p⟩
theorem RowSt.none {X : AHeap} : RowSt X X [] 0 0 [] := ⟨fun x _ => ⟨rfl, fun h => absurd rfl h⟩, fun h => absurd rfl h, fun h => absurd rfl h, fun h => absurd rfl h, fun h => absurd rfl h⟩
theorem RowSt.del {X Y : AHeap} {l cs : List AVal} {b cap : Nat} (h : RowSt X Y l b cap cs) (hl : l ≠ []) : X.sub (Y.del b) := fun x p hx => by
  obtain ⟨h1, h2⟩ := h.old x (by rw [hx]; simp)
  refine ⟨p, ?_, .refl p⟩
  unfold AHeap.del
  rw [if_neg (h2 hl), h1, hx]
theorem RowSt.put {X Y : AHeap} {l cs : List AVal} {b cap c : Nat} (h : RowSt X Y l b cap cs) (hc : Y c = Option.none) (o : HObj) : RowSt X (Y.put c o) l b cap cs := ⟨fun x hx => by
    obtain ⟨h1, h2⟩ := h.old x hx
    exact ⟨by rw [put_ne (fun e => by rw [e] at h1 hx; rw [hc] at h1; exact hx h1.symm), h1], h2⟩, fun hl => by
    have h1 := h.row hl
    rw [put_ne (fun e => by rw [e, hc] at h1; cases h1), h1], h.head, h.len, h.cap⟩
theorem RowSt.first {X Z : AHeap} {b0 cap0 b cap : Nat} {cs0 l cs : List AVal} (h : RowSt X Z [] b0 cap0 cs0) (hb : Z b = Option.none) (h1 : cs.take l.length = l) (h2 : cs.length = cap) (h3 : l.length ≤ cap) : RowSt X (Z.put b (.cells cs)) l b cap cs :=
  ⟨fun x hx => by
    have e := (h.old x hx).1
    have hne : x ≠ b := fun e2 => by rw [e2] at e hx; rw [hb] at e; exact hx e.symm
    exact ⟨by rw [put_ne hne, e], fun _ => hne⟩, fun _ => put_same _ _ _, fun _ => h1, fun _ => h2, fun _ => h3⟩
theorem RowSt.next {X Z : AHeap} {b0 cap0 b cap : Nat} {l0 cs0 l cs : List AVal} (h : RowSt X Z l0 b0 cap0 cs0) (hl : l0 ≠ []) (hb : b = b0 ∨ Z b = Option.none) (h1 : cs.take l.length = l) (h2 : cs.length = cap) (h3 : l.length ≤ cap) : RowSt X ((Z.del b0).put b (.cells cs)) l b cap cs :=
  ⟨fun x hx => by
    obtain ⟨e, e0⟩ := h.old x hx
    have hne : x ≠ b := fun e2 => by
      rcases hb with hb | hb
      · exact e0 hl (e2.trans hb)
      · rw [e2] at e hx; rw [hb] at e; exact hx e.symm
    refine ⟨?_, fun _ => hne⟩
    rw [put_ne hne]
    unfold AHeap.del
    rw [if_neg (e0 hl), e], fun _ => put_same _ _ _, fun _ => h1, fun _ => h2, fun _ => h3⟩
theorem uni_strs (l : List ByteArray) : Uni 1 (encStrs l) := fun x hx => by
  obtain ⟨e, _, rfl⟩ := List.mem_map.1 hx; rfl
theorem flatten_map1 {α : Type} (f : α → AVal) (l : List α) : (l.map fun x => [f x]).flatten = l.map f := by
  induction l with
  | nil => rfl
  | cons a l ih => simp [ih]
theorem entNames_app (l : List Ent) (e : Ent) : (entNames l).map AVal.s ++ [.s e.name] = (entNames (l ++ [e])).map AVal.s := by simp [entNames]
theorem names_c {n : Node} (hs : n.small) {H : AHeap} {K : AVal → AHeap → Prop} (hK : K (.sl (encStrs (sortB (entNames n.ents))) .no) H) : ACalls Try.prog 60 [.agg (encNode n)] H K := by
  refine acalls_body Try.func60 rfl rfl rfl ?_
  have ll := ents_len n.ents
  have hs2 := hs.2
  repeat first|apply w6|apply w7
  refine s_box rfl rfl rfl (fun b1 hb1 => ?_); have hb := hb1; (try simp only [put_none_iff, prot_none_iff] at hb); (repeat obtain ⟨_, _, hb⟩ := hb)
  repeat first|(apply x1;apply r0;apply r0)|(apply x2;apply r0;(apply q0);apply r0)|apply w4|apply w6|apply w7|apply wb|apply w5
  generalize hX : AHeap.put H _ _ = X
  have fx1 : X b1 = some (.cells (encNode n)) := by rw [← hX]; exact (by apply ps)
  have hsub : H.sub X := by rw [← hX]; exact (by repeat first|exact s0|(apply su1;assumption))
  clear hX
  refine aw_loop (fun s : Nat × Nat × Nat × List AVal × AHeap => s.1 ≤ n.ents.length ∧ RowSt X s.2.2.2.2 ((entNames (n.ents.take s.1)).map .s) s.2.1 s.2.2.1 s.2.2.2.1) (fun s => [(1, .ptr b1 0), (3, rowV s.1 s.2.1 s.2.2.1), (7, .sl (n.ents.map encEnt) .no), (8, .i (n.ents.map encEnt).length), (9, .i s.1)])
    (fun s => s.2.2.2.2) (fun s => n.ents.length - s.1) (0, 0, 0, [], X) ⟨Nat.zero_le _, RowSt.none⟩ (by repeat (first | exact Fr.sub_nil _ | refine Fr.sub_cons rfl ?_)) (AHeap.sub_refl _) ?_
  rintro ⟨k, b, cap, cs, Y⟩ ⟨hk, hm⟩
  simp only at hk hm
  have hlen : ((entNames (n.ents.take k)).map AVal.s).length = k := by simp [entNames]; omega
  have hlen' := hlen
  rw [List.length_map] at hlen'
  repeat first|(apply x1;apply r0;apply r0)|apply w4|apply w6|apply w7|apply w5
  refine aw_cond rfl (fun c => ?_) (fun c => ?_)<;>first|replace c:=of_decide_eq_true c|replace c:=of_decide_eq_false c
  · have c' : k < n.ents.length := by omega
    have hstep : (entNames (n.ents.take (k + 1))).map AVal.s = (entNames (n.ents.take k)).map AVal.s ++ [.s n.ents[k].name] := by
      rw [List.take_add_one, List.getElem?_eq_getElem c', Option.toList_some, entNames_app]
    repeat first|apply w6|apply w7|apply wa|apply wb|apply w5
    refine s_index tk rfl rfl rfl rfl (by omega) (map_get rfl c') rfl ?_
    repeat (apply x3;apply r0)
    refine s_alloc tk rfl rfl rfl (fun b5 hb5 => ?_); have hb := hb5; (try simp only [put_none_iff, prot_none_iff] at hb); (repeat obtain ⟨_, _, hb⟩ := hb)
    repeat first|(apply x1;apply r0;apply r0)|(apply x2;apply r0;(with_reducible repeat first|apply q0|apply ps);apply r0)|(apply xst;apply r0;(with_reducible repeat first|apply q0|apply ps);apply r0)|(apply xbs;apply r0)|apply w4|apply w7|apply w5
    have hz : ∀ o : HObj, (Y.put b5 (.cells [.s ⟨#[]⟩, .i 0])).put b5 o = Y.put b5 o := fun o => put_put _ _ _ _
    replace hm : RowSt X (Y.put b5 (.cells (encEnt n.ents[k]))) ((entNames (n.ents.take k)).map .s) b cap cs := hm.put hb _
    rw [hz]
    generalize Y.put b5 _ = Z at hm ⊢
    have hl1 : ((entNames (n.ents.take (k + 1))).map AVal.s).length = k + 1 := by rw [hstep, List.length_append, hlen]; rfl
    by_cases hk0 : k = 0
    · subst hk0
      refine s_append_row tk rfl rfl rfl rfl rfl rfl rfl (uni_one1 _) (Nat.zero_lt_succ _) (by simp only [List.length_cons, List.length_nil]; omega) (fun b2 cap2 hb2 hcap2 => ?_)
      replace hm : RowSt X Z [] b cap cs := by simpa [entNames] using hm
      have hm2 := RowSt.first (l := (entNames (n.ents.take (0 + 1))).map AVal.s) (cs := [AVal.s n.ents[0].name] ++ rep (cap2 - 1) [.s ⟨#[]⟩]) (cap := cap2) hm hb2 (by rw [hl1, hstep]; rfl) (by rw [List.length_append, rep_len]; simp at hcap2 ⊢; omega) (by rw [hl1]; exact hcap2)
      repeat first|(apply x1;apply r0;apply r0)|apply w4|(apply x6;apply r0;omega)|apply w7|apply w5|apply wg
      refine ⟨(0 + 1, b2, cap2, _, _), ⟨c', hm2⟩, by simp only; omega, (by repeat (first | exact Fr.sub_nil _ | refine Fr.sub_cons rfl ?_)), AHeap.sub_refl _⟩
    · have hne : (entNames (n.ents.take k)).map AVal.s ≠ [] := fun e => by rw [e] at hlen; simp at hlen; omega
      rw [show rowV k b cap = .row b 0 k cap by rw [rowV, if_neg hk0]]
      refine s_rowapp (rows := encStrs (entNames (n.ents.take k))) tk rfl rfl (hm.row hne) rfl rfl rfl rfl rfl (uni_strs _) (by rw [strs_len]; exact hlen') (by
        rw [Nat.mul_one, encStrs, flatten_map1]; have := hm.head hne; rw [hlen] at this; exact this) (by rw [Nat.mul_one]; exact hm.len hne) (by have := hm.cap hne; omega) (uni_one1 _) rfl (by omega) (by simp only [List.length_cons, List.length_nil]; omega) (fun b2 cap2 cs2 hb2 h1 h2 h3 => ?_)
      have hm2 := RowSt.next (l := (entNames (n.ents.take (k + 1))).map AVal.s) (cs := cs2) (cap := cap2) hm hne hb2 (by
        rw [hl1]
        rw [Nat.mul_one] at h3
        exact h3.trans (by rw [List.flatten_append, encStrs, flatten_map1, hstep]; rfl)) (by rw [h2, Nat.mul_one]) (by rw [hl1]; exact h1)
      repeat first|(apply x1;apply r0;apply r0)|apply w4|(apply x6;apply r0;omega)|apply w7|apply w5|apply wg
      refine ⟨(k + 1, b2, cap2, _, _), ⟨c', hm2⟩, by simp only; omega, (by repeat (first | exact Fr.sub_nil _ | refine Fr.sub_cons rfl ?_)), AHeap.sub_refl _⟩
  · have hke : k = n.ents.length := by omega
    subst hke
    rw [List.take_length] at hm hlen
    by_cases hk0 : n.ents.length = 0
    · have he : n.ents = [] := List.eq_nil_of_length_eq_zero hk0
      have e1 : rowV n.ents.length b cap = .sl [] .full := by rw [rowV, if_pos hk0]
      rw [he] at hK
      rw [show entNames [] = [] from rfl, sortB_nil] at hK
      rw [e1]
      have hsy : H.sub Y := AHeap.sub_trans hsub hm.sub
      repeat first|(apply gO;first|(apply x1;apply r0;apply r0)|(apply x9;apply r0))|(apply gW;first|apply w6|apply w7|apply wc)|apply w5|apply wf|apply wh
      refine sortnil_c ?_
      repeat first|(apply x1;apply r0;apply r0)|apply w4|apply w6|apply w7|apply wd|apply w5
      exact rt1 (H' := H) rfl rfl (.sl _ _) (by repeat assumption) hK
    · have hne : (entNames n.ents).map AVal.s ≠ [] := fun e => by rw [e] at hlen; simp at hlen; omega
      have e1 : rowV n.ents.length b cap = .row b 0 (entNames n.ents).length cap := by rw [rowV, if_neg hk0]; simp [entNames]
      rw [e1]
      have hnl : (entNames n.ents).length = n.ents.length := by simp [entNames]
      have hsy : H.sub (Y.del b) := AHeap.sub_trans hsub (hm.del hne)
      have h1 := hm.row hne
      have h2 := hm.head hne
      have h3 := hm.len hne
      have h4 := hm.cap hne
      rw [List.length_map] at h2 h4
      repeat first|(apply gO;first|(apply x1;apply r0;apply r0)|(apply x9;apply r0))|(apply gW;first|apply w6|apply w7|apply wc)|apply w5|apply wf|apply wh
      refine sort_c h1 h2 (by omega) (by omega) ?_
      have hsl := sortB_len (entNames n.ents)
      refine aops_close (d := 3) (rows := encStrs (sortB (entNames n.ents))) (es := 1) rfl (put_same _ _ _) (by decide) (fun x hx => by
        obtain ⟨e, _, rfl⟩ := List.mem_map.1 hx; rfl) (by rw [strs_len, hsl]) (by
        rw [List.drop_zero, Nat.mul_one, encStrs, flatten_map1]
        exact List.take_left' (by rw [List.length_map, hsl])) (by omega) (by omega) (by
        rw [List.length_append, List.length_map, hsl, List.length_drop]; omega) ?_
      repeat first|(apply x1;apply r0;apply r0)|apply w4|apply w6|apply w7|apply wd|apply w5
      refine rt1 (H' := H) rfl rfl (.refl _) ?_ hK
      refine AHeap.sub_trans hsy fun x p hx => ⟨p, ?_, .refl p⟩
      unfold AHeap.del AHeap.put at *
      split at hx
      · cases hx
      · rename_i hxb; rw [if_neg hxb, if_neg hxb]; exact hx
end Abs
end Go.Proofs.Ytpifnlodilcgkaa

set_option linter.unusedVariables false
namespace Go.Proofs.Ytpifnlodilcgkaa
namespace Abs
set_option linter.unusedSimpArgs false
set_option maxRecDepth 10000
set_option maxHeartbeats 2000000
attribute [local irreducible] AOps AW AP ACalls thenQ inBlk noGoto

/-! ### the document's Sorted -/
end Abs
end Go.Proofs.Ytpifnlodilcgkaa
