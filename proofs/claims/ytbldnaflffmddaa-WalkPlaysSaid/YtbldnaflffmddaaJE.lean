import Derived.Test.YtbldnaflffmddaaJD
import Derived.Test.YtbldnaflffmddaaX3
set_option linter.unusedVariables false
namespace Go.Proofs.Ytbldnaflffmddaa
namespace Abs
set_option linter.unusedSimpArgs false
set_option maxRecDepth 10000
set_option maxHeartbeats 2000000
attribute [local irreducible] AOps AW AP ACalls thenQ inBlk noGoto

/-! ### package walk: a walk -/
structure Itm where
  path : ByteArray
  op : Bool
  fo : Bool
def Itm.zero : Itm := ⟨⟨#[]⟩, false, false⟩
def encItm (i : Itm) : List AVal := [.s i.path, .b i.op, .b i.fo]
def encItms (l : List Itm) : List (List AVal) := l.map encItm
theorem itms_len (l : List Itm) : (encItms l).length = l.length := by simp [encItms]
theorem itms_uni (l : List Itm) : Uni 3 (encItms l) := fun x hx => by
  obtain ⟨e, _, rfl⟩ := List.mem_map.1 hx; rfl
theorem itms_uni1 (i : Itm) : Uni 3 [encItm i] := fun x hx => by
  rw [List.mem_singleton.1 hx]; rfl
theorem itms_app (l : List Itm) (i : Itm) : encItms l ++ [encItm i] = encItms (l ++ [i]) := by simp [encItms]
theorem flat_itms (l : List Itm) : flatA (encItms l).flatten = true := by
  simp only [flatA, List.all_eq_true]
  intro x hx
  obtain ⟨y, hy, hxy⟩ := List.mem_flatten.1 hx
  obtain ⟨e, _, rfl⟩ := List.mem_map.1 hy
  simp only [encItm, List.mem_cons, List.not_mem_nil, or_false] at hxy
  rcases hxy with rfl | rfl | rfl <;> rfl
structure Wkr where
  deep : Bool
  how : Int
  left : List Itm
  last : Itm
  begun : Bool
def followF (deep : Bool) (how : Int) (op : Bool) : Bool := !deep || decide (how = 76) || decide (how = 72) && op
def encWkO (w : Wkr) (o : Own) (bd bh bm : Nat) : List AVal := [.b w.deep, .clo 36 [] [.ptr bd 0, .ptr bh 0], .sl (encItms w.left) o, .s w.last.path, .b w.last.op, .b w.last.fo, .b w.begun, .mapv bm]
def encWk (w : Wkr) (bd bh bm : Nat) : List AVal := encWkO w .no bd bh bm
structure WkAt (H : AHeap) (bw bd bh bm : Nat) (w : Wkr) : Prop where
  cells : H bw = some (.cells (encWk w bd bh bm))
  deep : Rd H bd [.b w.deep]
  how : Rd H bh [.sc (.int .u8 w.how)]
  nd : bd ≠ bw
  nh : bh ≠ bw
theorem WkAt.put {H : AHeap} {bw bd bh bm : Nat} {w w' : Wkr} (h : WkAt H bw bd bh bm w) (hd : w'.deep = w.deep) (hh : w'.how = w.how) : WkAt (H.put bw (.cells (encWk w' bd bh bm))) bw bd bh bm w' :=
  ⟨put_same _ _ _, by rw [hd]; exact rd_put h.nd h.deep, by rw [hh]; exact rd_put h.nh h.how, h.nd, h.nh⟩
theorem WkAt.other {H : AHeap} {bw bd bh bm : Nat} {w : Wkr} (h : WkAt H bw bd bh bm w) {b : Nat} (hb : H b = none) (o : HObj) : WkAt (H.put b o) bw bd bh bm w := by
  have h1 : bw ≠ b := get_ne h.cells hb
  exact ⟨by rw [put_ne h1]; exact h.cells, rd_put (rd_ne h.deep hb) h.deep, rd_put (rd_ne h.how hb) h.how, h.nd, h.nh⟩
theorem WkAt.sub {H H' : AHeap} {bw bd bh bm : Nat} {w : Wkr} (h : WkAt H bw bd bh bm w) (he : ∀ x, H x ≠ none → H' x = H x) : WkAt H' bw bd bh bm w := by
  have hr : ∀ {b cs}, Rd H b cs → Rd H' b cs := fun {b cs} hr => hr.elim (fun e => .inl ((he b (by rw [e]; simp)).trans e)) (fun e => .inr ((he b (by rw [e]; simp)).trans e))
  exact ⟨(he bw (by rw [h.cells]; simp)).trans h.cells, hr h.deep, hr h.how, h.nd, h.nh⟩
theorem follow_c {op deep : Bool} {how : Int} {bd bh : Nat} {H : AHeap} (hd : Rd H bd [.b deep]) (hh : Rd H bh [.sc (.int .u8 how)]) {K : AVal → AHeap → Prop} (hK : K (.b (followF deep how op)) H) : ACalls Try.prog 36 [.b op, .ptr bd 0, .ptr bh 0] H K := by
  refine acalls_body Try.func36 rfl rfl rfl ?_
  unfold followF at hK
  cases deep with
  | false =>
    repeat first|(apply gO;first|(apply x1;apply r0;apply r0)|(apply x2;apply r0;(with_reducible assumption);apply r0)|apply w4|(apply w3;apply r0;apply r0))|(apply gW;first|apply w6|apply w7|apply wd)|apply w5
    exact rt1 (H' := H) rfl rfl (.refl _) s0 hK
  | true =>
    repeat first|(apply x1;apply r0;apply r0)|(apply x2;apply r0;(with_reducible assumption);apply r0)|(apply x5;apply r0)|apply w4|apply w6|apply w7|apply w5
    refine s_gsplit rfl rfl (fun g1 => ?_) (fun g1 => ?_)<;>first|replace g1:=of_decide_eq_true g1|replace g1:=of_decide_eq_false g1
    · rw [decide_eq_true g1] at hK
      repeat first|(apply x1;apply r0;apply r0)|apply w4|(apply w3;apply r0;apply r0)|apply wd|apply w5
      exact rt1 (H' := H) rfl rfl (.refl _) s0 hK
    rw [decide_eq_false g1] at hK
    repeat first|(apply x1;apply r0;apply r0)|(apply x2;apply r0;(with_reducible assumption);apply r0)|(apply x5;apply r0)
    refine s_gsplit rfl rfl (fun g2 => ?_) (fun g2 => ?_)<;>first|replace g2:=of_decide_eq_true g2|replace g2:=of_decide_eq_false g2
    · rw [decide_eq_true g2] at hK
      repeat first|(apply x1;apply r0;apply r0)|(apply x5;apply r0)|apply w4|apply wd|apply w5
      exact rt1 (H' := H) rfl rfl (.refl _) s0 hK
    · rw [decide_eq_false g2] at hK
      repeat first|(apply x1;apply r0;apply r0)|(apply x5;apply r0)|apply w4|(apply w3;apply r0;apply r0)|apply wd|apply w5
      exact rt1 (H' := H) rfl rfl (.refl _) s0 hK
theorem left_c {bw bd bh bm : Nat} {w : Wkr} {H : AHeap} (hw : WkAt H bw bd bh bm w) {K : AVal → AHeap → Prop} (hK : K (.i w.left.length) H) : ACalls Try.prog 14 [.ptr bw 0] H K := by
  refine acalls_body Try.func14 rfl rfl rfl ?_
  have hc := hw.cells
  repeat first|(apply gO;first|(apply x1;apply r0;apply r0)|(apply x2;apply r0;(with_reducible repeat exact q1 ‹_›);apply r0)|apply w4)|(apply gW;first|apply w6|apply w7|(apply w9;apply r0)|apply wa|apply wd)|apply w5
  refine rt1 (H' := H) rfl rfl ?_ s0 hK
  rw [itms_len]
  exact .refl _
theorem left_nil {H : AHeap} {K : AVal → AHeap → Prop} (hK : K (.i 0) H) : ACalls Try.prog 14 [.nilp] H K := by
  refine acalls_body Try.func14 rfl rfl rfl ?_
  repeat first|(apply gO;first|(apply x1;apply r0;apply r0)|apply w4)|(apply gW;first|apply w6|apply w7|(apply w8;apply r0)|apply wd)|apply w5|apply we
  exact rt1 (H' := H) rfl rfl (.refl _) s0 hK
end Abs
end Go.Proofs.Ytbldnaflffmddaa
