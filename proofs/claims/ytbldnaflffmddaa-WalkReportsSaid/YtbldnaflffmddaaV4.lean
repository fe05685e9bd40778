import Derived.Test.YtbldnaflffmddaaV1
import Derived.Test.YtbldnaflffmddaaQ1
set_option linter.unusedVariables false
namespace Go.Proofs.Ytbldnaflffmddaa
namespace Abs
set_option linter.unusedSimpArgs false
set_option maxRecDepth 10000
set_option maxHeartbeats 2000000
attribute [local irreducible] AOps AW AP ACalls thenQ inBlk noGoto

/-! ### two slices that grow beside a heap that stays -/
structure Own2 (X Y : AHeap) (o1 o2 : Own) : Prop where
  own1 : Owned Y o1
  own2 : Owned Y o2
  ne : ∀ b, tokB o1 = some b → tokB o2 ≠ some b
  old : ∀ x, X x ≠ none → Y x = X x ∧ tokB o1 ≠ some x ∧ tokB o2 ≠ some x
theorem Own2.swap {X Y : AHeap} {o1 o2 : Own} (h : Own2 X Y o1 o2) : Own2 X Y o2 o1 := ⟨h.own2, h.own1, fun b hb e => h.ne b e hb, fun x hx => ⟨(h.old x hx).1, (h.old x hx).2.2, (h.old x hx).2.1⟩⟩
theorem Own2.sub {X Y : AHeap} {o1 o2 : Own} (h : Own2 X Y o1 o2) : X.sub Y := fun x p hx => ⟨p, by rw [(h.old x (by rw [hx]; simp)).1]; exact hx, .refl p⟩
theorem Own2.get {X Y : AHeap} {o1 o2 : Own} (h : Own2 X Y o1 o2) {x : Nat} {p : HObj} (hx : X x = some p) : Y x = some p := by rw [(h.old x (by rw [hx]; simp)).1]; exact hx
theorem Own2.full (X : AHeap) : Own2 X X .full .full := ⟨trivial, trivial, (by intro b e; cases e), fun x _ => ⟨rfl, (by intro e; cases e), (by intro e; cases e)⟩⟩
theorem Own2.step {X Y : AHeap} {o1 o2 o' : Own} (h : Own2 X Y o1 o2) (ha : Apart (Y.free o1) o') : Own2 X ((Y.free o1).own o') o' o2 := by
  have hold : ∀ x p, Y x = some p → tokB o1 ≠ some x → ((Y.free o1).own o') x = Y x ∧ tokB o' ≠ some x := fun x p hY h2 => by
    have h3 := apart_ne ha hY h2
    exact ⟨free_own_get h2 h3, h3⟩
  refine ⟨owned_new ha, owned_get h.own2 fun b hb => ?_, fun b hb hb2 => ?_, fun x hx => ?_⟩
  · cases hYb : Y b with
    | none => exact absurd hYb (owned_some h.own2 hb)
    | some p => rw [(hold b p hYb (fun e => h.ne b e hb)).1, hYb]
  · cases hYb : Y b with
    | none => exact absurd hYb (owned_some h.own2 hb2)
    | some p => exact (hold b p hYb (fun e => h.ne b e hb2)).2 hb
  · obtain ⟨h1, h2, h3⟩ := h.old x hx
    cases hX : X x with
    | none => exact absurd hX hx
    | some p =>
      obtain ⟨h4, h5⟩ := hold x p (by rw [h1, hX]) h2
      exact ⟨by rw [h4, h1, hX], h5, h3⟩
/-! ### the document's With and Without -/
end Abs
end Go.Proofs.Ytbldnaflffmddaa

set_option linter.unusedVariables false
namespace Go.Proofs.Ytbldnaflffmddaa
namespace Abs
set_option linter.unusedSimpArgs false
set_option maxRecDepth 10000
set_option maxHeartbeats 2000000
attribute [local irreducible] AOps AW AP ACalls thenQ inBlk noGoto

/-! ### the document's Without -/
/-! ### lists of texts -/
theorem rsames_c {a b : List ByteArray} {o1 o2 : Own} (ha : a.length ≤ 1073741824) {H : AHeap} {K : AVal → AHeap → Prop} (hK : K (.b (decide (a = b))) H) : ACalls Try.prog 25 [.sl (encStrs a) o1, .sl (encStrs b) o2] H K := by
  refine acalls_body Try.func25 rfl rfl rfl ?_
  have la := strs_len a
  have lb := strs_len b
  repeat first|(apply x1;apply r0;apply r0)|apply w4|apply w6|apply w7|apply w5
  refine aw_cond rfl (fun c1 => ?_) (fun c1 => ?_)<;>first|replace c1:=not_t c1|replace c1:=not_f c1
  · have : decide (a = b) = false := decide_eq_false (fun e => by subst e; omega)
    rw [this] at hK
    repeat first|(apply x1;apply r0;apply r0)|apply w4|apply w6|apply w7|apply wd|apply w5|apply we
    exact rt1 rfl rfl (.refl _) (AHeap.sub_refl _) hK
  have hlen : a.length = b.length := by omega
  repeat first|(apply x1;apply r0;apply r0)|apply w4|apply w6|apply w7|apply wa|apply wb|apply w5
  refine aw_loop (fun k : Nat => k ≤ a.length ∧ ∀ j (h : j < a.length), j < k → a[j] = b[j]'(by omega)) (fun k => [(0, .sl (encStrs a) o1), (1, .sl (encStrs b) o2), (5, .i k)]) (fun _ => H) (fun k => a.length - k) 0 ⟨Nat.zero_le _, fun j h h' => absurd h' (Nat.not_lt_zero _)⟩ (by repeat (first | exact Fr.sub_nil _ | refine Fr.sub_cons rfl ?_)) (AHeap.sub_refl _) ?_
  rintro k ⟨hk, hall⟩
  repeat first|(apply x1;apply r0;apply r0)|apply w4|apply w6|apply w7|apply w5
  refine aw_cond rfl (fun c => ?_) (fun c => ?_)<;>first|replace c:=of_decide_eq_true c|replace c:=of_decide_eq_false c
  · have c' : k < a.length := by omega
    have c2 : k < b.length := by omega
    repeat first|apply w6|apply wa|apply wb|apply w5
    refine aw_plan mixed (.take 0 (.take 1 (.take 2 (.take 3 (.take 4 (.take 5 (.take 6 (.take 7 (.take 8 .done))))))))) (by kernel_rfl) ?_
    repeat (apply y1;apply r0;apply r0)
    refine d_index rfl rfl rfl rfl rfl rfl (by omega) (strs_get _ k c') rfl ?_
    repeat first|(apply y1;apply r0;apply r0)|(apply y3;apply r0;apply r0)
    refine d_index rfl rfl rfl rfl rfl rfl (by omega) (strs_get _ k c2) rfl ?_
    repeat first|(apply y1;apply r0;apply r0)|apply y0|(apply y3;apply r0;apply r0)|apply w5
    refine aw_cond rfl (fun e => ?_) (fun e => ?_)<;>first|replace e:=not_t e|replace e:=not_f e
    · have : decide (a = b) = false := decide_eq_false (fun h => by subst h; exact e rfl)
      rw [this] at hK
      repeat first|(apply gO;first|(apply x1;apply r0;apply r0)|apply w4)|(apply gW;first|apply w6|apply w7|apply wd)|apply w5|apply we|apply wj
      exact rt1 rfl rfl (.refl _) (AHeap.sub_refl _) hK
    · repeat first|(apply x1;apply r0;apply r0)|apply w4|(apply x6;apply r0;omega)|apply w7|apply wa|apply w5|apply wg
      exact ⟨k + 1, ⟨c', fun j h h' => by
        rcases Nat.lt_or_ge j k with h2 | h2
        · exact hall j h h2
        · have : j = k := by omega
          subst this; exact e⟩, by omega, (by repeat (first | exact Fr.sub_nil _ | refine Fr.sub_cons rfl ?_)), AHeap.sub_refl _⟩
  · have : decide (a = b) = true := decide_eq_true (List.ext_getElem hlen fun j h1 h2 => hall j h1 (by omega))
    rw [this] at hK
    repeat first|(apply gO;first|(apply x1;apply r0;apply r0)|apply w4)|(apply gW;first|apply w6|apply w7|apply wd|apply wc)|apply w5|apply wf|apply wh
    exact rt1 rfl rfl (.refl _) (AHeap.sub_refl _) hK
end Abs
end Go.Proofs.Ytbldnaflffmddaa

set_option linter.unusedVariables false
namespace Go.Proofs.Ytbldnaflffmddaa
namespace Abs
set_option linter.unusedSimpArgs false
set_option maxRecDepth 10000
set_option maxHeartbeats 2000000
attribute [local irreducible] AOps AW AP ACalls thenQ inBlk noGoto

/-! ### node.Names -/
structure RowSt (X Y : AHeap) (l : List AVal) (b cap : Nat) (cs : List AVal) : Prop where
  old : ∀ x, X x ≠ none → Y x = X x ∧ (l ≠ [] → x ≠ b)
  row : l ≠ [] → Y b = some (.cells cs)
  head : l ≠ [] → cs.take l.length = l
  len : l ≠ [] → cs.length = cap
  cap : l ≠ [] → l.length ≤ cap
theorem RowSt.get {X Y : AHeap} {l cs : List AVal} {b cap x : Nat} {p : HObj} (h : RowSt X Y l b cap cs) (hx : X x = some p) : Y x = some p := by rw [(h.old x (by rw [hx]; simp)).1]; exact hx
theorem RowSt.sub {X Y : AHeap} {l cs : List AVal} {b cap : Nat} (h : RowSt X Y l b cap cs) : X.sub Y := fun x p hx => ⟨p, h.get hx, .refl p⟩
theorem RowSt.none {X : AHeap} : RowSt X X [] 0 0 [] := ⟨fun x _ => ⟨rfl, fun h => absurd rfl h⟩, fun h => absurd rfl h, fun h => absurd rfl h, fun h => absurd rfl h, fun h => absurd rfl h⟩
theorem RowSt.del {X Y : AHeap} {l cs : List AVal} {b cap : Nat} (h : RowSt X Y l b cap cs) (hl : l ≠ []) : X.sub (Y.del b) := fun x p hx => by
  obtain ⟨h1, h2⟩ := h.old x (by rw [hx]; simp)
  refine ⟨p, ?_, .refl p⟩
  unfold AHeap.del
  rw [if_neg (h2 hl), h1, hx]
theorem RowSt.put {X Y : AHeap} {l cs : List AVal} {b cap c : Nat} (h : RowSt X Y l b cap cs) (hc : Y c = Option.none) (o : HObj) : RowSt X (Y.put c o) l b cap cs := ⟨fun x hx => by
    obtain ⟨h1, h2⟩ := h.old x hx
    exact ⟨by rw [put_ne (fun e => by rw [e] at h1 hx; rw [hc] at h1; exact hx h1.symm), h1], h2⟩, fun hl => by
    have h1 := h.row hl
    rw [put_ne (fun e => by rw [e, hc] at h1; cases h1), h1], h.head, h.len, h.cap⟩
theorem RowSt.first {X Z : AHeap} {b0 cap0 b cap : Nat} {cs0 l cs : List AVal} (h : RowSt X Z [] b0 cap0 cs0) (hb : Z b = Option.none) (h1 : cs.take l.length = l) (h2 : cs.length = cap) (h3 : l.length ≤ cap) : RowSt X (Z.put b (.cells cs)) l b cap cs :=
  ⟨fun x hx => by
    have e := (h.old x hx).1
    have hne : x ≠ b := fun e2 => by rw [e2] at e hx; rw [hb] at e; exact hx e.symm
    exact ⟨by rw [put_ne hne, e], fun _ => hne⟩, fun _ => put_same _ _ _, fun _ => h1, fun _ => h2, fun _ => h3⟩
theorem RowSt.next {X Z : AHeap} {b0 cap0 b cap : Nat} {l0 cs0 l cs : List AVal} (h : RowSt X Z l0 b0 cap0 cs0) (hl : l0 ≠ []) (hb : b = b0 ∨ Z b = Option.none) (h1 : cs.take l.length = l) (h2 : cs.length = cap) (h3 : l.length ≤ cap) : RowSt X ((Z.del b0).put b (.cells cs)) l b cap cs :=
  ⟨fun x hx => by
    obtain ⟨e, e0⟩ := h.old x hx
    have hne : x ≠ b := fun e2 => by
      rcases hb with hb | hb
      · exact e0 hl (e2.trans hb)
      · rw [e2] at e hx; rw [hb] at e; exact hx e.symm
    refine ⟨?_, fun _ => hne⟩
    rw [put_ne hne]
    unfold AHeap.del
    rw [if_neg (e0 hl), e], fun _ => put_same _ _ _, fun _ => h1, fun _ => h2, fun _ => h3⟩
theorem uni_strs (l : List ByteArray) : Uni 1 (encStrs l) := fun x hx => by
  obtain ⟨e, _, rfl⟩ := List.mem_map.1 hx; rfl
end Abs
end Go.Proofs.Ytbldnaflffmddaa

set_option linter.unusedVariables false
namespace Go.Proofs.Ytbldnaflffmddaa
namespace Abs
set_option linter.unusedSimpArgs false
set_option maxRecDepth 10000
set_option maxHeartbeats 2000000
attribute [local irreducible] AOps AW AP ACalls thenQ inBlk noGoto

/-! ### the document's Sorted -/
theorem strs_app (l : List ByteArray) (e : ByteArray) : encStrs l ++ [[.s e]] = encStrs (l ++ [e]) := by simp [encStrs]
end Abs
end Go.Proofs.Ytbldnaflffmddaa
