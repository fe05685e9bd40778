import Derived.Test.YtbldnaflffmddaaJE
set_option linter.unusedVariables false
namespace Go.Proofs.Ytbldnaflffmddaa
namespace Abs

/-! ### a slice in a struct that grows -/
structure GrSt (X Y : AHeap) (b : Nat) (cs : List AVal) (o : Own) : Prop where
  st : OwnSt X Y o
  cell : Y b = some (.cells cs)
  ne : tokB o ≠ some b
  new : X b = none
theorem GrSt.first {X : AHeap} {b : Nat} (h : X b = none) (cs : List AVal) : GrSt X (X.put b (.cells cs)) b cs .full :=
  ⟨⟨trivial, fun x hx => ⟨put_ne (fun e => hx (by rw [e]; exact h)), (by intro e; cases e)⟩⟩, put_same _ _ _, (by intro e; cases e), h⟩
theorem GrSt.get {X Y : AHeap} {b : Nat} {cs : List AVal} {o : Own} (h : GrSt X Y b cs o) {x : Nat} {p : HObj} (hx : X x = some p) : Y x = some p := h.st.get hx
theorem GrSt.rd {X Y : AHeap} {b : Nat} {cs : List AVal} {o : Own} (h : GrSt X Y b cs o) {x : Nat} {ds : List AVal} (hx : Rd X x ds) : Rd Y x ds := hx.elim (fun e => .inl (h.get e)) (fun e => .inr (h.get e))
theorem GrSt.cellA {X Y : AHeap} {b : Nat} {cs : List AVal} {o o' : Own} (h : GrSt X Y b cs o) (ha : Apart (Y.free o) o') : ((Y.free o).own o') b = some (.cells cs) := by
  rw [free_own_get h.ne (apart_ne ha h.cell h.ne)]; exact h.cell
theorem GrSt.next {X Y : AHeap} {b : Nat} {cs : List AVal} {o o' : Own} (h : GrSt X Y b cs o) (ha : Apart (Y.free o) o') (ds : List AVal) : GrSt X (((Y.free o).own o').put b (.cells ds)) b ds o' := by
  have h1 := apart_ne ha h.cell h.ne
  have h2 := h.st.step ha
  refine ⟨⟨owned_get h2.own (fun x hx => put_ne (fun e => h1 (by rw [hx, e]))), fun x hx => ?_⟩, put_same _ _ _, h1, h.new⟩
  have hxb : x ≠ b := fun e => hx (by rw [e]; exact h.new)
  rw [put_ne hxb]
  exact h2.old x hx
theorem GrSt.subW {X Y : AHeap} {b : Nat} {cs ds : List AVal} {o : Own} (h : GrSt X Y b cs o) (hw : Wk (.agg cs) (.agg ds)) : (X.put b (.cells ds)).sub Y := fun x p hx => by
  by_cases e : x = b
  · subst e
    rw [put_same] at hx; cases hx
    exact ⟨_, h.cell, .cells hw⟩
  · rw [put_ne e] at hx
    exact ⟨p, h.get hx, .refl _⟩
end Abs
end Go.Proofs.Ytbldnaflffmddaa

set_option linter.unusedVariables false
namespace Go.Proofs.Ytbldnaflffmddaa
namespace Abs
set_option linter.unusedSimpArgs false
set_option maxRecDepth 10000
set_option maxHeartbeats 2000000
attribute [local irreducible] AOps AW AP ACalls thenQ inBlk noGoto

/-! ### package walk: New -/
def opItm (deep : Bool) (how : Int) (p : ByteArray) : Itm := ⟨p, true, followF deep how true⟩
def newWk (how : Int) (deep : Bool) (l : List ByteArray) : Wkr := ⟨deep, how, l.map (opItm deep how), Itm.zero, false⟩
theorem wnew_c {how : Int} {deep : Bool} {l : List ByteArray} {o0 : Own} (hl : l.length ≤ 100000) {H : AHeap} {K : AVal → AHeap → Prop}
    (hK : ∀ H' bw bd bh bm, (∀ x, H x ≠ none → H' x = H x) → H.sub H' → H bw = none → H bm = none → bm ≠ bw → bd ≠ bm → bh ≠ bm → H' bm = some (.amap []) → WkAt H' bw bd bh bm (newWk how deep l) → K (.ptr bw 0) H') :
    ACalls Try.prog 11 [.sc (.int .u8 how), .b deep, .sl (encStrs l) o0] H K := by
  refine acalls_body Try.func11 rfl rfl rfl ?_
  have ll := strs_len l
  repeat first|apply w6|apply w7
  refine s_box rfl rfl rfl (fun b3 hb3 => ?_); have hb := hb3; (try simp only [put_none_iff, prot_none_iff] at hb); (repeat obtain ⟨_, _, hb⟩ := hb)
  skip
  refine s_box rfl rfl rfl (fun b4 hb4 => ?_); have hb := hb4; (try simp only [put_none_iff, prot_none_iff] at hb); (repeat obtain ⟨_, _, hb⟩ := hb)
  repeat first|(apply x1;apply r0;apply r0)|(apply x2;apply r0;(apply q0);apply r0)|apply w4|apply w6|apply w7|apply w5
  refine s_makemap rfl (fun bm hbm => ?_)
  have hb := hbm; (try simp only [put_none_iff, prot_none_iff] at hb); (repeat obtain ⟨_, _, hb⟩ := hb)
  refine xbd (v := .agg [.b deep, .sc .nilFunc, .sl [] .full, .s ⟨#[]⟩, .b false, .b false, .b false, .mapv bm]) rfl ?_
  refine s_box rfl rfl rfl (fun bw hbw => ?_); have hb := hbw; (try simp only [put_none_iff, prot_none_iff] at hb); (repeat obtain ⟨_, _, hb⟩ := hb)
  repeat first|(apply x1;apply r0;apply r0)|(apply xst;apply r0;(apply ps);apply r0)|apply w4|apply w6|apply w7|apply wb|apply w5
  have n43 : b4 ≠ b3 := by assumption
  have nm3 : bm ≠ b3 := by assumption
  have nm4 : bm ≠ b4 := by assumption
  have nw3 : bw ≠ b3 := by assumption
  have nw4 : bw ≠ b4 := by assumption
  have nwm : bw ≠ bm := by assumption
  generalize hX : AHeap.put _ bm _ = X at hbw ⊢
  have x3' : Rd X b3 [.sc (.int .u8 how)] := by rw [← hX]; exact (by with_reducible repeat first|assumption|apply q0|apply q3)
  have x4' : Rd X b4 [.b deep] := by rw [← hX]; exact (by with_reducible repeat first|assumption|apply q0|apply q3)
  have xm' : X bm = some (.amap []) := by rw [← hX]; exact put_same _ _ _
  have xs' : H.sub X := by rw [← hX]; exact (by repeat first|exact s0|(apply su1;assumption))
  have hz4 : H b4 = none := (put_none_iff.1 hb4).2.2
  have hzm : H bm = none := (put_none_iff.1 (put_none_iff.1 hbm).2.2).2.2
  have xo' : ∀ x, H x ≠ none → X x = H x := fun x hx => by
    rw [← hX, put_ne (fun e => hx (by rw [e]; exact hzm)), put_ne (fun e => hx (by rw [e]; exact hz4)), put_ne (fun e => hx (by rw [e]; exact hb3))]
  clear hX
  rw [put_put]
  have hm := GrSt.first hbw (encWkO ⟨deep, how, [], Itm.zero, false⟩ .full b4 b3 bm)
  refine aw_loop (fun s : Nat × Own × AHeap => s.1 ≤ l.length ∧ GrSt X s.2.2 bw (encWkO ⟨deep, how, (l.take s.1).map (opItm deep how), Itm.zero, false⟩ s.2.1 b4 b3 bm) s.2.1 ∧ ownEs 3 s.2.1) (fun s => [(7, .ptr bw 0), (18, .sl (encStrs l) o0), (19, .i (encStrs l).length), (20, .i s.1)]) (fun s => s.2.2) (fun s => l.length - s.1) (0, .full, X.put bw (.cells (encWkO ⟨deep, how, [], Itm.zero, false⟩ .full b4 b3 bm))) ⟨Nat.zero_le _, hm, trivial⟩ (by repeat (first | exact Fr.sub_nil _ | refine Fr.sub_cons rfl ?_)) (AHeap.sub_refl _) ?_
  clear hm
  rintro ⟨k, o1, Y⟩ ⟨hk, hm, he1⟩
  dsimp only at hk hm he1 ⊢
  repeat first|(apply x1;apply r0;apply r0)|apply w4|apply w6|apply w7|apply w5
  refine aw_cond rfl (fun c => ?_) (fun c => ?_)<;>first|replace c:=of_decide_eq_true c|replace c:=of_decide_eq_false c
  case refine_2 =>
    have hke : k = l.length := by omega
    subst hke
    rw [List.take_length] at hm
    repeat first|(apply gO;first|(apply x1;apply r0;apply r0)|apply w4)|(apply gW;first|apply w6|apply w7|apply wd|apply wc)|apply w5|apply wf|apply wh
    refine rt1 (H' := X.put bw (.cells (encWk (newWk how deep l) b4 b3 bm))) rfl rfl (.refl _) (hm.subW (wk_agg rfl)) (hK _ bw b4 b3 bm (fun x hx => by rw [put_ne (fun e => hx (by rw [e]; exact sub_none xs' hm.new))]; exact xo' x hx) (AHeap.sub_put xs' _ (sub_none xs' hm.new)) (sub_none xs' hm.new) (by assumption) (Ne.symm nwm) (Ne.symm nm4) (Ne.symm nm3) (by rw [put_ne (Ne.symm nwm)]; exact xm') ⟨put_same _ _ _, rd_put (Ne.symm nw4) x4', rd_put (Ne.symm nw3) x3', Ne.symm nw4, Ne.symm nw3⟩)
  have c' : k < l.length := by omega
  have hget : (encStrs l)[(k : Int).toNat]? = some [.s l[k]] := strs_get l k c'
  have hst : (l.take (k + 1)).map (opItm deep how) = (l.take k).map (opItm deep how) ++ [opItm deep how l[k]] := by
    rw [List.take_add_one, List.getElem?_eq_getElem c', Option.toList_some, List.map_append]; rfl
  generalize l[k] = p at hget hst
  have y' := hm.cell
  apply wa; apply w5; apply w6
  refine aw_cutS (fun F' H' => ∃ p1 Z, GrSt X Z bw (encWkO ⟨deep, how, (l.take (k + 1)).map (opItm deep how), Itm.zero, false⟩ p1 b4 b3 bm) p1 ∧ ownEs 3 p1 ∧ Fr.sub [(7, .ptr bw 0), (18, .sl (encStrs l) o0), (19, .i (encStrs l).length), (20, .i k)] F' ∧ Z.sub H') ?_ ?_
  · repeat first|apply w6|apply w7|apply wb
    refine s_index tk rfl rfl rfl rfl (by omega) hget rfl ?_
    repeat first|(apply x1;apply r0;apply r0)|(apply x3;apply r0)|apply w4|apply w5
    refine aw_plan mixed (.take 0 (.take 1 (.take 2 (.take 3 (.take 5 (.take 6 (.take 7 (.take 8 (.two 4 9 (.one 9 (.one 10 (.one 11 (.one 12 (.one 13 (.take 14 (.take 15 (.one 16 .done)))))))) (.two 4 10 (.one 10 (.one 11 (.one 12 (.one 13 (.take 14 (.take 15 (.one 16 .done))))))) (.two 4 11 (.one 11 (.one 12 (.one 13 (.take 14 (.take 15 (.one 16 .done)))))) (.two 4 12 (.one 12 (.one 13 (.take 14 (.take 15 (.one 16 .done))))) (.one 4 (.one 13 (.take 14 (.take 15 (.one 16 .done))))))))))))))))) (by kernel_rfl) ?_
    repeat (apply y1;apply r0;apply r0)
    refine e_two rfl rfl ?_ ?_
    · repeat first|(apply x2;apply r0;(with_reducible repeat exact q1 ‹_›);apply r0)|apply w4|(apply y4;apply r0)
      refine s_clo rfl rfl rfl (fkall rfl) ?_
      refine follow_c (hm.rd x4') (hm.rd x3') ?_
      repeat first|(apply xbd;apply r0)|(apply xbs;apply r0)|apply w4|(apply y4;apply r0)
      refine s_append (xs := encItms ((l.take k).map (opItm deep how))) (ys := [encItm (opItm deep how p)]) tk rfl rfl rfl rfl rfl (itms_uni _) (itms_uni1 (opItm deep how p)) rfl hm.st.own he1 (by rw [itms_len, List.length_map, List.length_take]; simp only [List.length_cons, List.length_nil]; omega) (fun p1 ha he1' => ?_)
      have z' := hm.cellA ha
      rw [itms_app, ← hst]
      repeat first|(apply xst;apply r0;(with_reducible assumption);apply r0)|apply w4|(apply y1;apply r0;apply r0)|apply y0|(apply y4;apply r0)|apply w5|apply wg
      skip
      refine ⟨p1, _, hm.next ha (encWkO ⟨deep, how, (l.take (k + 1)).map (opItm deep how), Itm.zero, false⟩ p1 b4 b3 bm), he1', (by repeat (first | exact Fr.sub_nil _ | refine Fr.sub_cons rfl ?_)), ?_⟩
      exact AHeap.sub_refl _
    · repeat first|(apply x2;apply r0;(with_reducible repeat exact q1 ‹_›);apply r0)|apply w4
      refine e_two rfl rfl ?_ ?_
      · repeat first|(apply x2;apply r0;(with_reducible repeat exact q1 ‹_›);apply r0)|apply w4|(apply y4;apply r0)
        refine s_clo rfl rfl rfl (fkall rfl) ?_
        refine follow_c (hm.rd x4') (hm.rd x3') ?_
        repeat first|(apply xbd;apply r0)|(apply xbs;apply r0)|apply w4|(apply y4;apply r0)
        refine s_append (xs := encItms ((l.take k).map (opItm deep how))) (ys := [encItm (opItm deep how p)]) tk rfl rfl rfl rfl rfl (itms_uni _) (itms_uni1 (opItm deep how p)) rfl hm.st.own he1 (by rw [itms_len, List.length_map, List.length_take]; simp only [List.length_cons, List.length_nil]; omega) (fun p1 ha he1' => ?_)
        have z' := hm.cellA ha
        rw [itms_app, ← hst]
        repeat first|(apply xst;apply r0;(with_reducible assumption);apply r0)|apply w4|(apply y1;apply r0;apply r0)|apply y0|(apply y4;apply r0)|apply w5|apply wg
        skip
        refine ⟨p1, _, hm.next ha (encWkO ⟨deep, how, (l.take (k + 1)).map (opItm deep how), Itm.zero, false⟩ p1 b4 b3 bm), he1', (by repeat (first | exact Fr.sub_nil _ | refine Fr.sub_cons rfl ?_)), ?_⟩
        exact AHeap.sub_refl _
      · refine s_clo rfl rfl rfl (fkall rfl) ?_
        refine follow_c (hm.rd x4') (hm.rd x3') ?_
        repeat apply w4
        refine e_two rfl rfl ?_ ?_
        · repeat first|(apply x2;apply r0;(with_reducible repeat exact q1 ‹_›);apply r0)|(apply xbd;apply r0)|(apply xbs;apply r0)|apply w4|(apply y4;apply r0)
          refine s_append (xs := encItms ((l.take k).map (opItm deep how))) (ys := [encItm (opItm deep how p)]) tk rfl rfl rfl rfl rfl (itms_uni _) (itms_uni1 (opItm deep how p)) rfl hm.st.own he1 (by rw [itms_len, List.length_map, List.length_take]; simp only [List.length_cons, List.length_nil]; omega) (fun p1 ha he1' => ?_)
          have z' := hm.cellA ha
          rw [itms_app, ← hst]
          repeat first|(apply xst;apply r0;(with_reducible assumption);apply r0)|apply w4|(apply y1;apply r0;apply r0)|apply y0|(apply y4;apply r0)|apply w5|apply wg
          skip
          refine ⟨p1, _, hm.next ha (encWkO ⟨deep, how, (l.take (k + 1)).map (opItm deep how), Itm.zero, false⟩ p1 b4 b3 bm), he1', (by repeat (first | exact Fr.sub_nil _ | refine Fr.sub_cons rfl ?_)), ?_⟩
          exact AHeap.sub_refl _
        · repeat first|(apply xbd;apply r0)|apply w4
          refine e_two rfl rfl ?_ ?_
          · repeat first|(apply x2;apply r0;(with_reducible repeat exact q1 ‹_›);apply r0)|(apply xbs;apply r0)|apply w4|(apply y4;apply r0)
            refine s_append (xs := encItms ((l.take k).map (opItm deep how))) (ys := [encItm (opItm deep how p)]) tk rfl rfl rfl rfl rfl (itms_uni _) (itms_uni1 (opItm deep how p)) rfl hm.st.own he1 (by rw [itms_len, List.length_map, List.length_take]; simp only [List.length_cons, List.length_nil]; omega) (fun p1 ha he1' => ?_)
            have z' := hm.cellA ha
            rw [itms_app, ← hst]
            repeat first|(apply xst;apply r0;(with_reducible assumption);apply r0)|apply w4|(apply y1;apply r0;apply r0)|apply y0|(apply y4;apply r0)|apply w5|apply wg
            skip
            refine ⟨p1, _, hm.next ha (encWkO ⟨deep, how, (l.take (k + 1)).map (opItm deep how), Itm.zero, false⟩ p1 b4 b3 bm), he1', (by repeat (first | exact Fr.sub_nil _ | refine Fr.sub_cons rfl ?_)), ?_⟩
            exact AHeap.sub_refl _
          · repeat first|(apply x2;apply r0;(with_reducible repeat exact q1 ‹_›);apply r0)|(apply xbs;apply r0)|apply w4|(apply y4;apply r0)
            refine s_append (xs := encItms ((l.take k).map (opItm deep how))) (ys := [encItm (opItm deep how p)]) tk rfl rfl rfl rfl rfl (itms_uni _) (itms_uni1 (opItm deep how p)) rfl hm.st.own he1 (by rw [itms_len, List.length_map, List.length_take]; simp only [List.length_cons, List.length_nil]; omega) (fun p1 ha he1' => ?_)
            have z' := hm.cellA ha
            rw [itms_app, ← hst]
            repeat first|(apply xst;apply r0;(with_reducible assumption);apply r0)|apply w4|(apply y1;apply r0;apply r0)|apply y0|(apply y4;apply r0)|apply w5|apply wg
            skip
            refine ⟨p1, _, hm.next ha (encWkO ⟨deep, how, (l.take (k + 1)).map (opItm deep how), Itm.zero, false⟩ p1 b4 b3 bm), he1', (by repeat (first | exact Fr.sub_nil _ | refine Fr.sub_cons rfl ?_)), ?_⟩
            exact AHeap.sub_refl _
  rintro F' H' ⟨p1, Z, hm2, he2, hF, hH⟩
  refine AW_sub ?_ hF hH
  clear hF hH
  repeat first|(apply x1;apply r0;apply r0)|apply w4|(apply x6;apply r0;omega)|apply w7|apply w5
  exact ⟨(k + 1, p1, Z), ⟨c', hm2, he2⟩, by dsimp only; omega, (by repeat (first | exact Fr.sub_nil _ | refine Fr.sub_cons rfl ?_)), AHeap.sub_refl _⟩
end Abs
end Go.Proofs.Ytbldnaflffmddaa
