import Derived.Test.YtpmnfbgnlanpoaaGreatV1
import Derived.Test.YtpmnfbgnlanpoaaGreatQ1
set_option linter.unusedVariables false
namespace Go.Proofs.YtpmnfbgnlanpoaaGreat
namespace Abs
set_option linter.unusedSimpArgs false
set_option maxRecDepth 10000
set_option maxHeartbeats 2000000
attribute [local irreducible] AOps AW AP ACalls thenQ inBlk noGoto

/-! ### two slices that grow beside a heap that stays -/
structure Own2 (X Y : AHeap) (o1 o2 : Own) : Prop where
  own1 : Owned Y o1
  own2 : Owned Y o2
  ne : ∀ b, tokB o1 = some b → tokB o2 ≠ some b
  old : ∀ x, X x ≠ none → Y x = X x ∧ tokB o1 ≠ some x ∧ tokB o2 ≠ some x
theorem Own2.swap {X Y : AHeap} {o1 o2 : Own} (h : Own2 X Y o1 o2) : Own2 X Y o2 o1 := ⟨h.own2, h.own1, fun b hb e => h.ne b e hb, fun x hx => ⟨(h.old x hx).1, (h.old x hx).2.2, (h.old x hx).2.1⟩⟩
theorem Own2.sub {X Y : AHeap} {o1 o2 : Own} (h : Own2 X Y o1 o2) : X.sub Y := fun x p hx => ⟨p, by rw [(h.old x (by rw [hx]; simp)).1]; exact hx, .refl p⟩
theorem Own2.get {X Y : AHeap} {o1 o2 : Own} (h : Own2 X Y o1 o2) {x : Nat} {p : HObj} (hx : X x = some p) : Y x = some p := by rw [(h.old x (by rw [hx]; simp)).1]; exact hx
theorem Own2.full (X : AHeap) : Own2 X X .full .full := ⟨trivial, trivial, (by intro b e; cases e), fun x _ => ⟨rfl, (by intro e; cases e), (by intro e; cases e)⟩⟩
theorem Own2.step {X Y : AHeap} {o1 o2 o' : Own} (h : Own2 X Y o1 o2) (ha : Apart (Y.free o1) o') : Own2 X ((Y.free o1).own o') o' o2 := by
  have hold : ∀ x p, Y x = some p → tokB o1 ≠ some x → ((Y.free o1).own o') x = Y x ∧ tokB o' ≠ some x := fun x p hY h2 => by
    have h3 := apart_ne ha hY h2
    exact ⟨free_own_get h2 h3, h3⟩
  refine ⟨owned_new ha, owned_get h.own2 fun b hb => ?_, fun b hb hb2 => ?_, fun x hx => ?_⟩
  · cases hYb : Y b with
    | none => exact absurd hYb (owned_some h.own2 hb)
    | some p => rw [(hold b p hYb (fun e => h.ne b e hb)).1, hYb]
  · cases hYb : Y b with
    | none => exact absurd hYb (owned_some h.own2 hb2)
    | some p => exact (hold b p hYb (fun e => h.ne b e hb2)).2 hb
  · obtain ⟨h1, h2, h3⟩ := h.old x hx
    cases hX : X x with
    | none => exact absurd hX hx
    | some p =>
      obtain ⟨h4, h5⟩ := hold x p (by rw [h1, hX]) h2
      exact ⟨by rw [h4, h1, hX], h5, h3⟩
theorem names_app (l : List Ent) (e : Ent) : encNames l ++ [[.s e.name]] = encNames (l ++ [e]) := by simp [encNames]
theorem kids_app (l : List Ent) (e : Ent) : encKids l ++ [[.i e.node]] = encKids (l ++ [e]) := by simp [encKids]
/-! ### the document's With and Without -/
end Abs
end Go.Proofs.YtpmnfbgnlanpoaaGreat

set_option linter.unusedVariables false
namespace Go.Proofs.YtpmnfbgnlanpoaaGreat
namespace Abs
set_option linter.unusedSimpArgs false
set_option maxRecDepth 10000
set_option maxHeartbeats 2000000
attribute [local irreducible] AOps AW AP ACalls thenQ inBlk noGoto

/-! ### the document's Without -/
def outTo (l : List Ent) (j k : Nat) : List Ent := (l.take k).eraseIdx j
theorem outTo_succ {l : List Ent} {j k : Nat} (h : k < l.length) : outTo l j (k + 1) = if k = j then outTo l j k else outTo l j k ++ [l[k]] := by
  unfold outTo
  rw [List.take_add_one, List.getElem?_eq_getElem h, Option.toList_some]
  have hl : (l.take k).length = k := by rw [List.length_take]; omega
  by_cases e : k = j
  · subst e
    rw [if_pos rfl, List.eraseIdx_append_of_length_le (by omega), hl, Nat.sub_self]
    show l.take k ++ [] = _
    rw [List.append_nil, List.eraseIdx_of_length_le (show (l.take k).length ≤ k by omega)]
  · rw [if_neg e]
    rcases Nat.lt_or_ge j k with h2 | h2
    · rw [List.eraseIdx_append_of_lt_length (by omega)]
    · rw [List.eraseIdx_append_of_length_le (by omega), hl, List.eraseIdx_of_length_le (show (l.take k).length ≤ j by omega), List.eraseIdx_of_length_le (show [l[k]].length ≤ j - k by simp only [List.length_cons, List.length_nil]; omega)]
theorem outTo_all (l : List Ent) (j : Nat) : outTo l j l.length = l.take j ++ [] ++ l.drop (j + 1) := by
  rw [outTo, List.take_length, List.eraseIdx_eq_take_drop_succ, List.append_nil]
theorem outTo_len (l : List Ent) (j k : Nat) : (outTo l j k).length ≤ k := by
  unfold outTo
  refine Nat.le_trans (List.length_eraseIdx_le _ _) ?_
  rw [List.length_take]; omega
theorem rnwithout_c {n : Node} (hs : n.small) {name : ByteArray} {H : AHeap} {K : AVal → AHeap → Prop} (hK : K (.tup [.agg (encM (n.withoutN name)), .i (n.withoutE name)]) H) : ACalls Tryz.prog 89 [.agg (encM n), .s name] H K := by
  refine acalls_body Tryz.func89 rfl rfl rfl ?_
  have ll := names_len n.ents
  have lk := kids_len n.ents
  have err : ∀ E : Int, n.withoutE name = E → n.withoutN name = Node.zero → K (.tup [.agg (encM Node.zero), .i E]) H := fun E h0 h => by
    rw [h0, h] at hK; exact hK
  have hs2 := hs.2
  repeat first|apply w6|apply w7
  refine s_box rfl rfl rfl (fun b2 hb2 => ?_); have hb := hb2; (try simp only [put_none_iff, prot_none_iff] at hb); (repeat obtain ⟨_, _, hb⟩ := hb)
  skip
  refine s_alloc tk rfl rfl rfl (fun b4 hb4 => ?_); have hb := hb4; (try simp only [put_none_iff, prot_none_iff] at hb); (repeat obtain ⟨_, _, hb⟩ := hb)
  repeat first|(apply x1;apply r0;apply r0)|(apply x2;apply r0;(with_reducible repeat first|assumption|apply q0|apply q3);apply r0)|apply w4|apply w6|apply w7|apply w5
  refine aw_cond rfl (fun c1 => ?_) (fun c1 => ?_)<;>first|replace c1:=not_t c1|replace c1:=not_f c1
  · repeat first|(apply gO;first|(apply x1;apply r0;apply r0)|(apply xst;apply r0;(apply ps);apply r0)|(apply xbd;apply r0)|apply w4)|(apply gW;first|apply w6|apply w7|apply wd)|apply w5|apply we
    exact rt2c (H' := H) rfl rfl (by apply q0) rfl (by rfl) rfl (by exact .pair (wk_agg rfl) (.refl _)) (by repeat first|exact s0|(apply su1;assumption)) (err 20 (by simp [Node.withoutE, c1]) (by simp [Node.withoutN, show (n.kind == 2) = false by simpa using c1]))
  repeat first|(apply x1;apply r0;apply r0)|(apply x2;apply r0;(with_reducible repeat first|assumption|apply q0|apply q3);apply r0)|(apply x9;apply r0)|apply w6|apply w7|apply wa|apply w5
  refine rplace_c hs ?_
  cases hp : n.place name with
  | none =>
    rw [show idxI none = -1 from rfl]
    repeat first|(apply gO;first|(apply x1;apply r0;apply r0)|(apply xst;apply r0;(apply ps);apply r0)|(apply xbd;apply r0)|apply w4)|(apply gW;first|apply w6|apply w7|(apply w8;apply r0)|apply wd)|apply w5|apply we
    exact rt2c (H' := H) rfl rfl (by apply q0) rfl (by rfl) rfl (by exact .pair (wk_agg rfl) (.refl _)) (by repeat first|exact s0|(apply su1;assumption)) (err 2 (by simp only [Node.withoutE, hp, if_neg (show ¬ ¬ n.kind = 2 from fun h => h c1)]; simp) (by simp [Node.withoutN, hp]))
  | some j =>
    obtain ⟨hj, _⟩ := place_lt hp
    have hE : n.withoutE name = 0 := by simp only [Node.withoutE, hp, if_neg (show ¬ ¬ n.kind = 2 from fun h => h c1)]; simp
    have hN : n.withoutN name = n.cut j (j + 1) [] := by simp only [Node.withoutN, hp, show (n.kind == 2) = true by simpa using c1]
    rw [hE, hN] at hK
    rw [show idxI (some j) = (j : Int) from rfl]
    repeat first|(apply gO;first|(apply x1;apply r0;apply r0)|apply w4)|(apply gW;first|apply w6|apply w7|(apply w9;apply r0)|apply wa|apply wb)|apply w5
    generalize hX : AHeap.put (AHeap.put H _ _) _ _ = X
    have fx2 : X b2 = some (.cells (encM n)) := by rw [← hX]; exact (by with_reducible repeat first|assumption|apply ps|apply gp)
    have fx4 : X b4 = some (.cells [.i 0, .i 0, .i 0, .i 0, .s ⟨#[]⟩, .sl [] .full, .sl [] .full, .s ⟨#[]⟩]) := by rw [← hX]; exact (by apply ps)
    have hsub : H.sub X := by rw [← hX]; exact (by repeat first|exact s0|(apply su1;assumption))
    clear hX
    refine aw_loop (fun s : Nat × Own × Own × AHeap => s.1 ≤ n.ents.length ∧ Own2 X s.2.2.2 s.2.1 s.2.2.1 ∧ ownEs 1 s.2.1 ∧ ownEs 1 s.2.2.1) (fun s => [(2, .ptr b2 0), (4, .ptr b4 0), (6, .i j), (7, .sl (encNames (outTo n.ents j s.1)) s.2.1), (8, .sl (encKids (outTo n.ents j s.1)) s.2.2.1), (9, .i s.1)])
      (fun s => s.2.2.2) (fun s => n.ents.length - s.1) (0, .full, .full, X) ⟨Nat.zero_le _, Own2.full X, trivial, trivial⟩ (by repeat (first | exact Fr.sub_nil _ | refine Fr.sub_cons rfl ?_)) (AHeap.sub_refl _) ?_
    rintro ⟨k, o1, o2, Y⟩ ⟨hk, hm, he1, he2⟩
    simp only at hk hm he1 he2
    have fy2 := hm.get fx2
    have hA := outTo_len n.ents j k
    repeat first|(apply x1;apply r0;apply r0)|(apply x2;apply r0;(with_reducible repeat exact q1 ‹_›);apply r0)|apply w4|apply w6|apply w7|apply w5
    refine aw_cond rfl (fun c4 => ?_) (fun c4 => ?_)<;>first|replace c4:=of_decide_eq_true c4|replace c4:=of_decide_eq_false c4
    · have c' : k < n.ents.length := by omega
      have hstep := outTo_succ (j := j) c'
      repeat first|(apply x1;apply r0;apply r0)|apply w4|apply w6|apply w7|apply wa|apply wb|apply w5
      refine aw_cond rfl (fun e1 => ?_) (fun e1 => ?_)<;>first|replace e1:=not_t e1|replace e1:=not_f e1
      · have e1' : ¬ k = j := by omega
        rw [if_neg e1'] at hstep
        repeat first|(apply x1;apply r0;apply r0)|(apply x2;apply r0;(with_reducible repeat exact q1 ‹_›);apply r0)|apply w6|apply w7
        refine s_index tk rfl rfl rfl rfl (by omega) (names_get _ k c') rfl ?_
        repeat first|(apply x3;apply r0)|(apply xbs;apply r0)
        refine s_append tk rfl rfl rfl rfl rfl (uni_names _) (uni_one1 _) rfl hm.own1 he1 (by rw [names_len]; simp only [List.length_append, List.length_cons, List.length_nil]; omega) (fun p1 ha1 he1 => ?_)
        replace hm := hm.step ha1
        clear ha1 fy2
        generalize ((_ : AHeap).free _).own p1 = Y at hm ⊢
        have fy2 := hm.get fx2
        rw [names_app _ n.ents[k]]
        repeat first|(apply x1;apply r0;apply r0)|(apply x2;apply r0;(with_reducible repeat exact q1 ‹_›);apply r0)|apply w4|apply w7|apply w5
        refine s_index tk rfl rfl rfl rfl (by omega) (kids_get _ k c') rfl ?_
        repeat first|(apply x3;apply r0)|(apply xbs;apply r0)
        refine s_append tk rfl rfl rfl rfl rfl (uni_kids _) (uni_one1 _) rfl hm.own2 he2 (by rw [kids_len]; simp only [List.length_append, List.length_cons, List.length_nil]; omega) (fun p2 ha2 he2 => ?_)
        replace hm := (hm.swap.step ha2).swap
        clear ha2 fy2
        generalize ((_ : AHeap).free _).own p2 = Y at hm ⊢
        have fy2 := hm.get fx2
        rw [kids_app _ n.ents[k]]
        repeat first|(apply x1;apply r0;apply r0)|apply w4|(apply x6;apply r0;omega)|apply w7|apply w5|apply wg
        refine ⟨(k + 1, p1, p2, Y), ⟨c', hm, he1, he2⟩, by simp only; omega, ?_, AHeap.sub_refl _⟩
        simp only [hstep]
        exact (by repeat (first | exact Fr.sub_nil _ | refine Fr.sub_cons rfl ?_))
      · have e1' : k = j := by omega
        rw [if_pos e1'] at hstep
        repeat first|(apply x1;apply r0;apply r0)|apply w4|(apply x6;apply r0;omega)|apply w7|apply wa|apply w5|apply wg
        refine ⟨(k + 1, o1, o2, Y), ⟨c', hm, he1, he2⟩, by simp only; omega, ?_, AHeap.sub_refl _⟩
        simp only [hstep]
        exact (by repeat (first | exact Fr.sub_nil _ | refine Fr.sub_cons rfl ?_))
    · have hke : k = n.ents.length := by omega
      subst hke
      have hall := outTo_all n.ents j
      have hsy : H.sub Y := AHeap.sub_trans hsub hm.sub
      have fy4 := hm.get fx4
      repeat first|(apply gO;first|(apply x1;apply r0;apply r0)|(apply x2;apply r0;(with_reducible repeat first|assumption|apply q0|apply ps|apply gp);apply r0)|(apply xst;apply r0;(with_reducible repeat first|assumption|apply q0|apply ps|apply gp);apply r0)|apply w4)|(apply gW;first|apply w6|apply w7|apply wd|apply wc)|apply w5|apply wf|apply wh
      have hcut : encM (n.cut j (j + 1) []) = [.i n.kind, .i n.mode, .i n.uid, .i n.gid, .s n.data, .sl (encNames (outTo n.ents j n.ents.length)) .no, .sl (encKids (outTo n.ents j n.ents.length)) .no, .s n.target] := by rw [hall]; rfl
      exact rt2c (H' := H) rfl rfl (by apply q0) rfl (by rfl) rfl (by exact .pair (wk_agg (by rw [hcut]; rfl)) (.refl _)) (by repeat first|assumption|(apply su1;assumption)) hK

/-! ### lists of texts -/
end Abs
end Go.Proofs.YtpmnfbgnlanpoaaGreat

set_option linter.unusedVariables false
namespace Go.Proofs.YtpmnfbgnlanpoaaGreat
namespace Abs
set_option linter.unusedSimpArgs false
set_option maxRecDepth 10000
set_option maxHeartbeats 2000000
attribute [local irreducible] AOps AW AP ACalls thenQ inBlk noGoto

/-! ### node.Names -/
def entNames (l : List Ent) : List ByteArray := l.map (·.name)
structure RowSt (X Y : AHeap) (l : List AVal) (b cap : Nat) (cs : List AVal) : Prop where
  old : ∀ x, X x ≠ none → Y x = X x ∧ (l ≠ [] → x ≠ b)
  row : l ≠ [] → Y b = some (.cells cs)
  head : l ≠ [] → cs.take l.length = l
  len : l ≠ [] → cs.length = cap
  cap : l ≠ [] → l.length ≤ cap
theorem RowSt.get {X Y : AHeap} {l cs : List AVal} {b cap x : Nat} {p : HObj} (h : RowSt X Y l b cap cs) (hx : X x = some p) : Y x = some p := by rw [(h.old x (by rw [hx]; simp)).1]; exact hx
theorem RowSt.sub {X Y : AHeap} {l cs : List AVal} {b cap : Nat} (h : RowSt X Y l b cap cs) : X.sub Y := fun x p hx => ⟨p, h.get hx, .refl p⟩
theorem RowSt.none {X : AHeap} : RowSt X X [] 0 0 [] := ⟨fun x _ => ⟨rfl, fun h => absurd rfl h⟩, fun h => absurd rfl h, fun h => absurd rfl h, fun h => absurd rfl h, fun h => absurd rfl h⟩
theorem RowSt.del {X Y : AHeap} {l cs : List AVal} {b cap : Nat} (h : RowSt X Y l b cap cs) (hl : l ≠ []) : X.sub (Y.del b) := fun x p hx => by
  obtain ⟨h1, h2⟩ := h.old x (by rw [hx]; simp)
  refine ⟨p, ?_, .refl p⟩
  unfold AHeap.del
  rw [if_neg (h2 hl), h1, hx]
theorem RowSt.put {X Y : AHeap} {l cs : List AVal} {b cap c : Nat} (h : RowSt X Y l b cap cs) (hc : Y c = Option.none) (o : HObj) : RowSt X (Y.put c o) l b cap cs := ⟨fun x hx => by
    obtain ⟨h1, h2⟩ := h.old x hx
    exact ⟨by rw [put_ne (fun e => by rw [e] at h1 hx; rw [hc] at h1; exact hx h1.symm), h1], h2⟩, fun hl => by
    have h1 := h.row hl
    rw [put_ne (fun e => by rw [e, hc] at h1; cases h1), h1], h.head, h.len, h.cap⟩
theorem RowSt.first {X Z : AHeap} {b0 cap0 b cap : Nat} {cs0 l cs : List AVal} (h : RowSt X Z [] b0 cap0 cs0) (hb : Z b = Option.none) (h1 : cs.take l.length = l) (h2 : cs.length = cap) (h3 : l.length ≤ cap) : RowSt X (Z.put b (.cells cs)) l b cap cs :=
  ⟨fun x hx => by
    have e := (h.old x hx).1
    have hne : x ≠ b := fun e2 => by rw [e2] at e hx; rw [hb] at e; exact hx e.symm
    exact ⟨by rw [put_ne hne, e], fun _ => hne⟩, fun _ => put_same _ _ _, fun _ => h1, fun _ => h2, fun _ => h3⟩
theorem RowSt.next {X Z : AHeap} {b0 cap0 b cap : Nat} {l0 cs0 l cs : List AVal} (h : RowSt X Z l0 b0 cap0 cs0) (hl : l0 ≠ []) (hb : b = b0 ∨ Z b = Option.none) (h1 : cs.take l.length = l) (h2 : cs.length = cap) (h3 : l.length ≤ cap) : RowSt X ((Z.del b0).put b (.cells cs)) l b cap cs :=
  ⟨fun x hx => by
    obtain ⟨e, e0⟩ := h.old x hx
    have hne : x ≠ b := fun e2 => by
      rcases hb with hb | hb
      · exact e0 hl (e2.trans hb)
      · rw [e2] at e hx; rw [hb] at e; exact hx e.symm
    refine ⟨?_, fun _ => hne⟩
    rw [put_ne hne]
    unfold AHeap.del
    rw [if_neg (e0 hl), e], fun _ => put_same _ _ _, fun _ => h1, fun _ => h2, fun _ => h3⟩
end Abs
end Go.Proofs.YtpmnfbgnlanpoaaGreat

set_option linter.unusedVariables false
namespace Go.Proofs.YtpmnfbgnlanpoaaGreat
namespace Abs
set_option linter.unusedSimpArgs false
set_option maxRecDepth 10000
set_option maxHeartbeats 2000000
attribute [local irreducible] AOps AW AP ACalls thenQ inBlk noGoto

/-! ### the document's Sorted -/
end Abs
end Go.Proofs.YtpmnfbgnlanpoaaGreat
