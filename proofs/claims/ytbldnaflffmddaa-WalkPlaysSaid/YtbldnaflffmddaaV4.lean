import Derived.Test.YtbldnaflffmddaaV1
import Derived.Test.YtbldnaflffmddaaQ1
set_option linter.unusedVariables false
namespace Go.Proofs.Ytbldnaflffmddaa
namespace Abs
set_option linter.unusedSimpArgs false
set_option maxRecDepth 10000
set_option maxHeartbeats 2000000
attribute [local irreducible] AOps AW AP ACalls thenQ inBlk noGoto

/-! ### two slices that grow beside a heap that stays -/
structure Own2 (X Y : AHeap) (o1 o2 : Own) : Prop where
  own1 : Owned Y o1
  own2 : Owned Y o2
  ne : ∀ b, tokB o1 = some b → tokB o2 ≠ some b
  old : ∀ x, X x ≠ none → Y x = X x ∧ tokB o1 ≠ some x ∧ tokB o2 ≠ some x
theorem Own2.swap {X Y : AHeap} {o1 o2 : Own} (h : Own2 X Y o1 o2) : Own2 X Y o2 o1 := ⟨h.own2, h.own1, fun b hb e => h.ne b e hb, fun x hx => ⟨(h.old x hx).1, (h.old x hx).2.2, (h.old x hx).2.1⟩⟩
theorem Own2.sub {X Y : AHeap} {o1 o2 : Own} (h : Own2 X Y o1 o2) : X.sub Y := fun x p hx => ⟨p, by rw [(h.old x (by rw [hx]; simp)).1]; exact hx, .refl p⟩
theorem Own2.get {X Y : AHeap} {o1 o2 : Own} (h : Own2 X Y o1 o2) {x : Nat} {p : HObj} (hx : X x = some p) : Y x = some p := by rw [(h.old x (by rw [hx]; simp)).1]; exact hx
theorem Own2.full (X : AHeap) : Own2 X X .full .full := ⟨trivial, trivial, (by intro b e; cases e), fun x _ => ⟨rfl, (by intro e; cases e), (by intro e; cases e)⟩⟩
theorem Own2.step {X Y : AHeap} {o1 o2 o' : Own} (h : Own2 X Y o1 o2) (ha : Apart (Y.free o1) o') : Own2 X ((Y.free o1).own o') o' o2 := by
  have hold : ∀ x p, Y x = some p → tokB o1 ≠ some x → ((Y.free o1).own o') x = Y x ∧ tokB o' ≠ some x := fun x p hY h2 => by
    have h3 := apart_ne ha hY h2
    exact ⟨free_own_get h2 h3, h3⟩
  refine ⟨owned_new ha, owned_get h.own2 fun b hb => ?_, fun b hb hb2 => ?_, fun x hx => ?_⟩
  · cases hYb : Y b with
    | none => exact absurd hYb (owned_some h.own2 hb)
    | some p => rw [(hold b p hYb (fun e => h.ne b e hb)).1, hYb]
  · cases hYb : Y b with
    | none => exact absurd hYb (owned_some h.own2 hb2)
    | some p => exact (hold b p hYb (fun e => h.ne b e hb2)).2 hb
  · obtain ⟨h1, h2, h3⟩ := h.old x hx
    cases hX : X x with
    | none => exact absurd hX hx
    | some p =>
      obtain ⟨h4, h5⟩ := hold x p (by rw [h1, hX]) h2
      exact ⟨by rw [h4, h1, hX], h5, h3⟩
/-! ### the document's With and Without -/
end Abs
end Go.Proofs.Ytbldnaflffmddaa

set_option linter.unusedVariables false
namespace Go.Proofs.Ytbldnaflffmddaa
namespace Abs
set_option linter.unusedSimpArgs false
set_option maxRecDepth 10000
set_option maxHeartbeats 2000000
attribute [local irreducible] AOps AW AP ACalls thenQ inBlk noGoto

/-! ### the document's Without -/
/-! ### lists of texts -/
end Abs
end Go.Proofs.Ytbldnaflffmddaa

set_option linter.unusedVariables false
namespace Go.Proofs.Ytbldnaflffmddaa
namespace Abs
set_option linter.unusedSimpArgs false
set_option maxRecDepth 10000
set_option maxHeartbeats 2000000
attribute [local irreducible] AOps AW AP ACalls thenQ inBlk noGoto

/-! ### node.Names -/
structure RowSt (X Y : AHeap) (l : List AVal) (b cap : Nat) (cs : List AVal) : Prop where
  old : ∀ x, X x ≠ none → Y x = X x ∧ (l ≠ [] → x ≠ b)
  row : l ≠ [] → Y b = some (.cells cs)
  head : l ≠ [] → cs.take l.length = l
  len : l ≠ [] → cs.length = cap
  cap : l ≠ [] → l.length ≤ cap
theorem RowSt.get {X Y : AHeap} {l cs : List AVal} {b cap x : Nat} {p : HObj} (h : RowSt X Y l b cap cs) (hx : X x = some p) : Y x = some p := by rw [(h.old x (by rw [hx]; simp)).1]; exact hx
theorem RowSt.sub {X Y : AHeap} {l cs : List AVal} {b cap : Nat} (h : RowSt X Y l b cap cs) : X.sub Y := fun x p hx => ⟨p, h.get hx, .refl p⟩
theorem RowSt.none {X : AHeap} : RowSt X X [] 0 0 [] := ⟨fun x _ => ⟨rfl, fun h => absurd rfl h⟩, fun h => absurd rfl h, fun h => absurd rfl h, fun h => absurd rfl h, fun h => absurd rfl h⟩
theorem RowSt.del {X Y : AHeap} {l cs : List AVal} {b cap : Nat} (h : RowSt X Y l b cap cs) (hl : l ≠ []) : X.sub (Y.del b) := fun x p hx => by
  obtain ⟨h1, h2⟩ := h.old x (by rw [hx]; simp)
  refine ⟨p, ?_, .refl p⟩
  unfold AHeap.del
  rw [if_neg (h2 hl), h1, hx]
theorem RowSt.put {X Y : AHeap} {l cs : List AVal} {b cap c : Nat} (h : RowSt X Y l b cap cs) (hc : Y c = Option.none) (o : HObj) : RowSt X (Y.put c o) l b cap cs := ⟨fun x hx => by
    obtain ⟨h1, h2⟩ := h.old x hx
    exact ⟨by rw [put_ne (fun e => by rw [e] at h1 hx; rw [hc] at h1; exact hx h1.symm), h1], h2⟩, fun hl => by
    have h1 := h.row hl
    rw [put_ne (fun e => by rw [e, hc] at h1; cases h1), h1], h.head, h.len, h.cap⟩
theorem RowSt.first {X Z : AHeap} {b0 cap0 b cap : Nat} {cs0 l cs : List AVal} (h : RowSt X Z [] b0 cap0 cs0) (hb : Z b = Option.none) (h1 : cs.take l.length = l) (h2 : cs.length = cap) (h3 : l.length ≤ cap) : RowSt X (Z.put b (.cells cs)) l b cap cs :=
  ⟨fun x hx => by
    have e := (h.old x hx).1
    have hne : x ≠ b := fun e2 => by rw [e2] at e hx; rw [hb] at e; exact hx e.symm
    exact ⟨by rw [put_ne hne, e], fun _ => hne⟩, fun _ => put_same _ _ _, fun _ => h1, fun _ => h2, fun _ => h3⟩
theorem RowSt.next {X Z : AHeap} {b0 cap0 b cap : Nat} {l0 cs0 l cs : List AVal} (h : RowSt X Z l0 b0 cap0 cs0) (hl : l0 ≠ []) (hb : b = b0 ∨ Z b = Option.none) (h1 : cs.take l.length = l) (h2 : cs.length = cap) (h3 : l.length ≤ cap) : RowSt X ((Z.del b0).put b (.cells cs)) l b cap cs :=
  ⟨fun x hx => by
    obtain ⟨e, e0⟩ := h.old x hx
    have hne : x ≠ b := fun e2 => by
      rcases hb with hb | hb
      · exact e0 hl (e2.trans hb)
      · rw [e2] at e hx; rw [hb] at e; exact hx e.symm
    refine ⟨?_, fun _ => hne⟩
    rw [put_ne hne]
    unfold AHeap.del
    rw [if_neg (e0 hl), e], fun _ => put_same _ _ _, fun _ => h1, fun _ => h2, fun _ => h3⟩
theorem uni_strs (l : List ByteArray) : Uni 1 (encStrs l) := fun x hx => by
  obtain ⟨e, _, rfl⟩ := List.mem_map.1 hx; rfl
end Abs
end Go.Proofs.Ytbldnaflffmddaa

set_option linter.unusedVariables false
namespace Go.Proofs.Ytbldnaflffmddaa
namespace Abs
set_option linter.unusedSimpArgs false
set_option maxRecDepth 10000
set_option maxHeartbeats 2000000
attribute [local irreducible] AOps AW AP ACalls thenQ inBlk noGoto

/-! ### the document's Sorted -/
def sStep (x : ByteArray) (s : List ByteArray × Bool) (e : ByteArray) : List ByteArray × Bool := if Op.bytesLess x.toList e.toList = true ∧ s.2 = false then (s.1 ++ [x] ++ [e], true) else (s.1 ++ [e], s.2)
def sTo (x : ByteArray) (l : List ByteArray) : Nat → List ByteArray × Bool
  | 0 => ([], false)
  | k + 1 => sStep x (sTo x l k) (l.getD k ⟨#[]⟩)
def sEnd (x : ByteArray) (l : List ByteArray) : List ByteArray := if (sTo x l l.length).2 = true then (sTo x l l.length).1 else (sTo x l l.length).1 ++ [x]
def sortTo (l : List ByteArray) : Nat → List ByteArray
  | 0 => []
  | k + 1 => sEnd (l.getD k ⟨#[]⟩) (sortTo l k)
theorem sTo_len (x : ByteArray) (l : List ByteArray) : ∀ k : Nat, (sTo x l k).1.length = k + (if (sTo x l k).2 = true then 1 else 0)
  | 0 => rfl
  | k + 1 => by
    have ih := sTo_len x l k
    simp only [sTo, sStep]
    split
    · rename_i h
      rw [h.2] at ih
      simp at ih ⊢
      omega
    · simp only [List.length_append, List.length_cons, List.length_nil]
      omega
theorem sEnd_len (x : ByteArray) (l : List ByteArray) : (sEnd x l).length = l.length + 1 := by
  have h := sTo_len x l l.length
  unfold sEnd
  split
  · rename_i e; rw [if_pos e] at h; exact h
  · rename_i e; rw [if_neg e] at h; rw [List.length_append, h]; rfl
theorem sortTo_len (l : List ByteArray) : ∀ k : Nat, (sortTo l k).length = k
  | 0 => rfl
  | k + 1 => by rw [sortTo, sEnd_len, sortTo_len l k]
theorem strs_app (l : List ByteArray) (e : ByteArray) : encStrs l ++ [[.s e]] = encStrs (l ++ [e]) := by simp [encStrs]
theorem rsorted_c {l : List ByteArray} {o0 : Own} (hl : l.length ≤ 1073741824) (hsz : ∀ s ∈ l, s.size ≤ 1073741824) {H : AHeap} {K : AVal → AHeap → Prop} (hK : K (.sl (encStrs (sortTo l l.length)) .no) H) : ACalls Try.prog 42 [.sl (encStrs l) o0] H K := by
  refine acalls_body Try.func42 rfl rfl rfl ?_
  have ll := strs_len l
  repeat first|(apply x1;apply r0;apply r0)|apply w4|apply w6|apply w7|apply wb|apply w5
  refine aw_loop (fun s : Nat × Own × AHeap => s.1 ≤ l.length ∧ ∀ x, H x ≠ none → s.2.2 x = H x) (fun s => [(0, .sl (encStrs l) o0), (3, .sl (encStrs (sortTo l s.1)) s.2.1), (4, .i s.1)]) (fun s => s.2.2) (fun s => l.length - s.1) (0, .full, H) ⟨Nat.zero_le _, fun x _ => rfl⟩ (by repeat (first | exact Fr.sub_nil _ | refine Fr.sub_cons rfl ?_)) (AHeap.sub_refl _) ?_
  rintro ⟨i, oo, Y⟩ ⟨hi, hY⟩
  simp only at hi hY
  have lo := strs_len (sortTo l i)
  have lo2 := sortTo_len l i
  repeat first|(apply x1;apply r0;apply r0)|apply w4|apply w6|apply w7|apply w5
  refine aw_cond rfl (fun c => ?_) (fun c => ?_)<;>first|replace c:=of_decide_eq_true c|replace c:=of_decide_eq_false c
  · have c' : i < l.length := by omega
    have hx : l[i].size ≤ 1073741824 := hsz _ (List.getElem_mem c')
    have hm0 : OwnSt H Y .full := ⟨trivial, fun x hx => ⟨hY x hx, (by intro e; cases e)⟩⟩
    have hso : sortTo l (i + 1) = sEnd l[i] (sortTo l i) := by
      rw [sortTo, List.getD_eq_getElem?_getD, List.getElem?_eq_getElem c', Option.getD_some]
    repeat first|(apply x1;apply r0;apply r0)|apply w4|apply w6|apply w7|apply wa|apply wb|apply w5
    refine aw_loop (fun s : Nat × Own × AHeap => s.1 ≤ (sortTo l i).length ∧ OwnSt H s.2.2 s.2.1 ∧ ownEs 1 s.2.1) (fun s => [(0, .sl (encStrs l) o0), (3, .sl (encStrs (sortTo l i)) oo), (4, .i i), (5, .sl (encStrs (sTo l[i] (sortTo l i) s.1).1) s.2.1), (6, .b (sTo l[i] (sortTo l i) s.1).2), (7, .i s.1)]) (fun s => s.2.2) (fun s => (sortTo l i).length - s.1) (0, .full, Y) ⟨Nat.zero_le _, hm0, trivial⟩ (by repeat (first | exact Fr.sub_nil _ | refine Fr.sub_cons rfl ?_)) (AHeap.sub_refl _) ?_
    rintro ⟨k, on, Z⟩ ⟨hk, hm, he1⟩
    simp only at hk hm he1
    have hA := sTo_len l[i] (sortTo l i) k
    repeat first|(apply x1;apply r0;apply r0)|apply w4|apply w6|apply w7|apply w5
    refine aw_cond rfl (fun c1 => ?_) (fun c1 => ?_)<;>first|replace c1:=of_decide_eq_true c1|replace c1:=of_decide_eq_false c1
    · have c2 : k < (sortTo l i).length := by omega
      have hstep : sTo l[i] (sortTo l i) (k + 1) = sStep l[i] (sTo l[i] (sortTo l i) k) (sortTo l i)[k] := by
        simp only [sTo, List.getD_eq_getElem?_getD, List.getElem?_eq_getElem c2, Option.getD_some]
      generalize sTo l[i] (sortTo l i) k = I at hA hstep ⊢
      obtain ⟨A, d⟩ := I
      simp only at hA
      have hA' : A.length ≤ k + 1 := by split at hA <;> omega
      repeat first|apply w6|apply wa|apply wb|apply w5
      refine aw_plan mixed (.take 0 (.take 1 (.take 2 (.take 3 (.take 4 (.take 5 (.take 6 (.take 7 (.one 8 (.take 9 .done)))))))))) (by kernel_rfl) ?_
      repeat (apply y1;apply r0;apply r0)
      refine d_index rfl rfl rfl rfl rfl rfl (by omega) (strs_get _ i c') rfl ?_
      repeat first|(apply y1;apply r0;apply r0)|(apply y3;apply r0;apply r0)
      refine d_index rfl rfl rfl rfl rfl rfl (by omega) (strs_get _ k c2) rfl ?_
      repeat first|(apply x9;apply r0)|(apply y4;apply r0)|(apply y3;apply r0;apply r0)
      refine less_c (a := l[i]) (by omega) ?_
      repeat first|(apply x1;apply r0;apply r0)|apply w4|(apply y1;apply r0;apply r0)|apply y0|apply w6|apply w7|apply w5
      refine s_gsplit rfl rfl (fun e1 => ?_) (fun e1 => ?_)
      case refine_1 =>
        repeat first|(apply x1;apply r0;apply r0)|(apply x5;apply r0)|apply w4|apply w5
        refine aw_cond rfl (fun e2 => ?_) (fun e2 => ?_)
        · have e2' : d = false := by simpa using e2
          subst e2'
          repeat first|(apply x1;apply r0;apply r0)|apply w6|apply w7
          refine s_index tk rfl rfl rfl rfl (by omega) (strs_get _ i c') rfl ?_
          repeat first|(apply x3;apply r0)|(apply xbs;apply r0)
          refine s_append tk rfl rfl rfl rfl rfl (uni_strs _) (uni_one1 _) rfl hm.own he1 (by rw [strs_len]; simp only [List.length_append, List.length_cons, List.length_nil]; omega) (fun p1 ha1 he1 => ?_)
          replace hm := hm.step ha1
          clear ha1
          generalize ((_ : AHeap).free _).own p1 = Z at hm ⊢
          rw [strs_app _ l[i]]
          repeat first|(apply x1;apply r0;apply r0)|apply w4|apply w7|apply w5
          refine s_index tk rfl rfl rfl rfl (by omega) (strs_get _ k c2) rfl ?_
          repeat first|(apply x3;apply r0)|(apply xbs;apply r0)
          refine s_append tk rfl rfl rfl rfl rfl (uni_strs _) (uni_one1 _) rfl hm.own he1 (by rw [strs_len]; simp only [List.length_append, List.length_cons, List.length_nil]; omega) (fun p1 ha1 he1 => ?_)
          replace hm := hm.step ha1
          clear ha1
          generalize ((_ : AHeap).free _).own p1 = Z at hm ⊢
          rw [strs_app _ (sortTo l i)[k]]
          repeat first|(apply x1;apply r0;apply r0)|apply w4|(apply x6;apply r0;omega)|apply w7|apply w5|apply wg
          have hf : sTo l[i] (sortTo l i) (k + 1) = (A ++ [l[i]] ++ [(sortTo l i)[k]], true) := by rw [hstep]; simp [sStep, *]
          refine ⟨(k + 1, p1, Z), ⟨c2, hm, he1⟩, by simp only; omega, ?_, AHeap.sub_refl _⟩
          simp only [hf]
          exact (by repeat (first | exact Fr.sub_nil _ | refine Fr.sub_cons rfl ?_))
        · have e2' : d = true := by simpa using e2
          subst e2'
          repeat first|(apply x1;apply r0;apply r0)|apply w7|apply wa|apply w5
          refine s_index tk rfl rfl rfl rfl (by omega) (strs_get _ k c2) rfl ?_
          repeat first|(apply x3;apply r0)|(apply xbs;apply r0)
          refine s_append tk rfl rfl rfl rfl rfl (uni_strs _) (uni_one1 _) rfl hm.own he1 (by rw [strs_len]; simp only [List.length_append, List.length_cons, List.length_nil]; omega) (fun p1 ha1 he1 => ?_)
          replace hm := hm.step ha1
          clear ha1
          generalize ((_ : AHeap).free _).own p1 = Z at hm ⊢
          rw [strs_app _ (sortTo l i)[k]]
          repeat first|(apply x1;apply r0;apply r0)|apply w4|(apply x6;apply r0;omega)|apply w7|apply w5|apply wg
          have hf : sTo l[i] (sortTo l i) (k + 1) = (A ++ [(sortTo l i)[k]], true) := by rw [hstep]; simp [sStep, *]
          refine ⟨(k + 1, p1, Z), ⟨c2, hm, he1⟩, by simp only; omega, ?_, AHeap.sub_refl _⟩
          simp only [hf]
          exact (by repeat (first | exact Fr.sub_nil _ | refine Fr.sub_cons rfl ?_))
      repeat first|(apply x1;apply r0;apply r0)|apply w4|(apply w3;apply r0;apply r0)|apply w7|(apply w9;apply r0)|apply wa|apply w5
      refine s_index tk rfl rfl rfl rfl (by omega) (strs_get _ k c2) rfl ?_
      repeat first|(apply x3;apply r0)|(apply xbs;apply r0)
      refine s_append tk rfl rfl rfl rfl rfl (uni_strs _) (uni_one1 _) rfl hm.own he1 (by rw [strs_len]; simp only [List.length_append, List.length_cons, List.length_nil]; omega) (fun p1 ha1 he1 => ?_)
      replace hm := hm.step ha1
      clear ha1
      generalize ((_ : AHeap).free _).own p1 = Z at hm ⊢
      rw [strs_app _ (sortTo l i)[k]]
      repeat first|(apply x1;apply r0;apply r0)|apply w4|(apply x6;apply r0;omega)|apply w7|apply w5|apply wg
      have hf : sTo l[i] (sortTo l i) (k + 1) = (A ++ [(sortTo l i)[k]], d) := by rw [hstep]; simp [sStep, *]
      refine ⟨(k + 1, p1, Z), ⟨c2, hm, he1⟩, by simp only; omega, ?_, AHeap.sub_refl _⟩
      simp only [hf]
      exact (by repeat (first | exact Fr.sub_nil _ | refine Fr.sub_cons rfl ?_))
    · have hke : k = (sortTo l i).length := by omega
      subst hke
      unfold sEnd at hso
      generalize sTo l[i] (sortTo l i) (sortTo l i).length = I at hA hso ⊢
      obtain ⟨A, d⟩ := I
      simp only at hA hso
      have hA' : A.length ≤ (sortTo l i).length + 1 := by split at hA <;> omega
      repeat first|(apply gO;first|(apply x1;apply r0;apply r0)|apply w4)|(apply gW;first|apply w6|apply w7|apply wc)|apply w5|apply wf|apply wh
      refine aw_cond rfl (fun e2 => ?_) (fun e2 => ?_)
      · have e2' : d = false := by simpa using e2
        subst e2'
        rw [if_neg (by decide)] at hso
        repeat first|(apply x1;apply r0;apply r0)|apply w7
        refine s_index tk rfl rfl rfl rfl (by omega) (strs_get _ i c') rfl ?_
        repeat first|(apply x3;apply r0)|(apply xbs;apply r0)
        refine s_append tk rfl rfl rfl rfl rfl (uni_strs _) (uni_one1 _) rfl hm.own he1 (by rw [strs_len]; simp only [List.length_append, List.length_cons, List.length_nil]; omega) (fun p1 ha1 he1 => ?_)
        replace hm := hm.step ha1
        clear ha1
        generalize ((_ : AHeap).free _).own p1 = Z at hm ⊢
        rw [strs_app _ l[i]]
        repeat first|(apply x1;apply r0;apply r0)|apply w4|(apply x6;apply r0;omega)|apply w7|apply w5|apply wg
        refine ⟨(i + 1, p1, Z), ⟨c', fun x hx => (hm.old x hx).1⟩, by simp only; omega, ?_, AHeap.sub_refl _⟩
        simp only [hso]
        exact (by repeat (first | exact Fr.sub_nil _ | refine Fr.sub_cons rfl ?_))
      · have e2' : d = true := by simpa using e2
        subst e2'
        rw [if_pos rfl] at hso
        repeat first|(apply x1;apply r0;apply r0)|apply w4|(apply x6;apply r0;omega)|apply w7|apply wa|apply w5|apply wg
        refine ⟨(i + 1, on, Z), ⟨c', fun x hx => (hm.old x hx).1⟩, by simp only; omega, ?_, AHeap.sub_refl _⟩
        simp only [hso]
        exact (by repeat (first | exact Fr.sub_nil _ | refine Fr.sub_cons rfl ?_))
  · have hke : i = l.length := by omega
    subst hke
    repeat first|(apply gO;first|(apply x1;apply r0;apply r0)|apply w4)|(apply gW;first|apply w6|apply w7|apply wd|apply wc)|apply w5|apply wf|apply wh
    exact rt1 (H' := H) rfl rfl (.sl _ _) (fun x p hx => ⟨p, (hY x (by rw [hx]; simp)).trans hx, .refl p⟩) hK
end Abs
end Go.Proofs.Ytbldnaflffmddaa
