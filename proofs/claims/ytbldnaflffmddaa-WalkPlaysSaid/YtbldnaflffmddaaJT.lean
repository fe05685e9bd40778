import Derived.Test.YtbldnaflffmddaaJS
import Derived.Test.YtbldnaflffmddaaJH
set_option linter.unusedVariables false
namespace Go.Proofs.Ytbldnaflffmddaa
namespace Abs
set_option linter.unusedSimpArgs false
set_option maxRecDepth 10000
set_option maxHeartbeats 2000000
attribute [local irreducible] AOps AW AP ACalls thenQ inBlk noGoto

/-! ### the document's walk: New and Enter -/
theorem rwnew_c {how : Int} {deep : Bool} {l : List ByteArray} {o0 : Own} (hl : l.length ≤ 100000) {H : AHeap} {K : AVal → AHeap → Prop} (hK : K (.agg (encWR (newWk how deep l) [])) H) :
    ACalls Try.prog 16 [.sc (.int .u8 how), .b deep, .sl (encStrs l) o0] H K := by
  refine acalls_body Try.func16 rfl rfl rfl ?_
  have ll := strs_len l
  repeat first|apply w6|apply w7
  refine s_alloc tk rfl rfl rfl (fun b6 hb6 => ?_); have hb := hb6; (try simp only [put_none_iff, prot_none_iff] at hb); (repeat obtain ⟨_, _, hb⟩ := hb)
  repeat first|(apply x1;apply r0;apply r0)|(apply xbd;apply r0)|apply w4|apply w6|apply w7|apply w5
  refine s_alloc tk rfl rfl rfl (fun b7 hb7 => ?_); have hb := hb7; (try simp only [put_none_iff, prot_none_iff] at hb); (repeat obtain ⟨_, _, hb⟩ := hb)
  (apply xst;apply r0;(apply ps);apply r0)
  rw [put_put]
  have x6' : (H.put b6 (.cells [.sc (.int .u8 0), .sc (.bool false), .sl [] .full, .sc (.string ⟨#[]⟩), .sc (.bool false), .sc (.bool false), .sc (.bool false), .sl [] .full])) b6 = some (.cells [.sc (.int .u8 0), .sc (.bool false), .sl [] .full, .sc (.string ⟨#[]⟩), .sc (.bool false), .sc (.bool false), .sc (.bool false), .sl [] .full]) := put_same _ _ _
  have xs' : H.sub (H.put b6 (.cells [.sc (.int .u8 0), .sc (.bool false), .sl [] .full, .sc (.string ⟨#[]⟩), .sc (.bool false), .sc (.bool false), .sc (.bool false), .sl [] .full])) := (by repeat first|exact s0|(apply su1;assumption))
  have fb6 : H b6 = none := hb6
  have n67 : b6 ≠ b7 := by assumption
  repeat first|(apply x1;apply r0;apply r0)|apply w4|apply w6|apply w7|apply wb|apply w5
  generalize AHeap.put _ b6 _ = X at hb7 x6' xs' ⊢
  have hm := GrSt.first hb7 (encWRO ⟨deep, how, [], Itm.zero, false⟩ [] .full .full)
  refine aw_loop (fun s : Nat × Own × AHeap => s.1 ≤ l.length ∧ GrSt X s.2.2 b7 (encWRO ⟨deep, how, (l.take s.1).map (opItm deep how), Itm.zero, false⟩ [] s.2.1 .full) s.2.1 ∧ ownEs 3 s.2.1) (fun s => [(2, .sl (encStrs l) o0), (6, .ptr b6 0), (7, .ptr b7 0), (8, .i s.1)]) (fun s => s.2.2) (fun s => l.length - s.1) (0, .full, X.put b7 (.cells (encWRO ⟨deep, how, [], Itm.zero, false⟩ [] .full .full))) ⟨Nat.zero_le _, hm, trivial⟩ (by repeat (first | exact Fr.sub_nil _ | refine Fr.sub_cons rfl ?_)) (AHeap.sub_refl _) ?_
  clear hm
  rintro ⟨k, o1, Y⟩ ⟨hk, hm, he1⟩
  dsimp only at hk hm he1 ⊢
  repeat first|(apply x1;apply r0;apply r0)|apply w4|apply w6|apply w7|apply w5
  refine aw_cond rfl (fun c => ?_) (fun c => ?_)<;>first|replace c:=of_decide_eq_true c|replace c:=of_decide_eq_false c
  case refine_2 =>
    have hke : k = l.length := by omega
    subst hke
    rw [List.take_length] at hm
    have z6' := hm.get x6'
    have z7' := hm.cell
    have hsy := AHeap.sub_trans xs' hm.st.sub
    repeat first|(apply gO;first|(apply x2;apply r0;(with_reducible repeat first|assumption|exact q1 ‹_›);apply r0)|(apply xst;apply r0;(with_reducible repeat first|assumption|exact q1 ‹_›);apply r0)|apply w4)|(apply gW;first|apply w6|apply w7|apply wd|apply wc)|apply w5|apply wf|apply wh
    exact rt1c (H' := H) rfl rfl (by apply q0) rfl (by rfl) (by exact wk_agg rfl) (by repeat first|assumption|(apply su1;assumption)) hK
  have c' : k < l.length := by omega
  have hget : (encStrs l)[(k : Int).toNat]? = some [.s l[k]] := strs_get l k c'
  have hst : (l.take (k + 1)).map (opItm deep how) = (l.take k).map (opItm deep how) ++ [opItm deep how l[k]] := by
    rw [List.take_add_one, List.getElem?_eq_getElem c', Option.toList_some, List.map_append]; rfl
  generalize l[k] = p at hget hst
  have yc' := hm.cell
  apply wa; apply w5; apply w6
  refine aw_cutS (fun F' H' => ∃ p1 Z, GrSt X Z b7 (encWRO ⟨deep, how, (l.take (k + 1)).map (opItm deep how), Itm.zero, false⟩ [] p1 .full) p1 ∧ ownEs 3 p1 ∧ Fr.sub [(2, .sl (encStrs l) o0), (6, .ptr b6 0), (7, .ptr b7 0), (8, .i k)] F' ∧ Z.sub H') ?_ ?_
  · repeat apply wb
    refine aw_plan mixed (.take 0 (.take 2 (.take 3 (.take 4 (.take 5 (.two 1 6 (.one 6 (.one 7 (.one 8 (.one 9 (.one 10 (.take 11 (.one 12 .done))))))) (.two 1 7 (.one 7 (.one 8 (.one 9 (.one 10 (.take 11 (.one 12 .done)))))) (.two 1 8 (.one 8 (.one 9 (.one 10 (.take 11 (.one 12 .done))))) (.two 1 9 (.one 9 (.one 10 (.take 11 (.one 12 .done)))) (.one 1 (.one 10 (.take 11 (.one 12 .done))))))))))))) (by kernel_rfl) ?_
    repeat (apply y1;apply r0;apply r0)
    refine d_index rfl rfl rfl rfl rfl rfl (by omega) hget rfl ?_
    repeat (apply y3;apply r0;apply r0)
    refine e_two rfl rfl ?_ ?_
    · repeat first|(apply x2;apply r0;(with_reducible repeat exact q1 ‹_›);apply r0)|(apply x9;apply r0)|apply w4|(apply y4;apply r0)
      refine rfollow_c (w := ⟨deep, how, (l.take k).map (opItm deep how), Itm.zero, false⟩) (kn := []) (o := o1) (o2 := .full) ?_
      repeat first|(apply xbd;apply r0)|(apply xbs;apply r0)|apply w4|(apply y4;apply r0)
      refine s_append (xs := encItms ((l.take k).map (opItm deep how))) (ys := [encItm (opItm deep how p)]) tk rfl rfl rfl rfl rfl (itms_uni _) (itms_uni1 (opItm deep how p)) rfl hm.st.own he1 (by rw [itms_len, List.length_map, List.length_take]; simp only [List.length_cons, List.length_nil]; omega) (fun p1 ha he1' => ?_)
      have z' := hm.cellA ha
      rw [itms_app, ← hst]
      repeat first|(apply xst;apply r0;(with_reducible assumption);apply r0)|apply w4|(apply y1;apply r0;apply r0)|apply y0|(apply y4;apply r0)|apply w5|apply wg
      skip
      refine ⟨p1, _, hm.next ha (encWRO ⟨deep, how, (l.take (k + 1)).map (opItm deep how), Itm.zero, false⟩ [] p1 .full), he1', (by repeat (first | exact Fr.sub_nil _ | refine Fr.sub_cons rfl ?_)), ?_⟩
      exact AHeap.sub_refl _
    · repeat first|(apply x2;apply r0;(with_reducible repeat exact q1 ‹_›);apply r0)|apply w4
      refine e_two rfl rfl ?_ ?_
      · repeat first|(apply x2;apply r0;(with_reducible repeat exact q1 ‹_›);apply r0)|(apply x9;apply r0)|apply w4|(apply y4;apply r0)
        refine rfollow_c (w := ⟨deep, how, (l.take k).map (opItm deep how), Itm.zero, false⟩) (kn := []) (o := o1) (o2 := .full) ?_
        repeat first|(apply xbd;apply r0)|(apply xbs;apply r0)|apply w4|(apply y4;apply r0)
        refine s_append (xs := encItms ((l.take k).map (opItm deep how))) (ys := [encItm (opItm deep how p)]) tk rfl rfl rfl rfl rfl (itms_uni _) (itms_uni1 (opItm deep how p)) rfl hm.st.own he1 (by rw [itms_len, List.length_map, List.length_take]; simp only [List.length_cons, List.length_nil]; omega) (fun p1 ha he1' => ?_)
        have z' := hm.cellA ha
        rw [itms_app, ← hst]
        repeat first|(apply xst;apply r0;(with_reducible assumption);apply r0)|apply w4|(apply y1;apply r0;apply r0)|apply y0|(apply y4;apply r0)|apply w5|apply wg
        skip
        refine ⟨p1, _, hm.next ha (encWRO ⟨deep, how, (l.take (k + 1)).map (opItm deep how), Itm.zero, false⟩ [] p1 .full), he1', (by repeat (first | exact Fr.sub_nil _ | refine Fr.sub_cons rfl ?_)), ?_⟩
        exact AHeap.sub_refl _
      · repeat (apply x9;apply r0)
        refine rfollow_c (w := ⟨deep, how, (l.take k).map (opItm deep how), Itm.zero, false⟩) (kn := []) (o := o1) (o2 := .full) ?_
        repeat apply w4
        refine e_two rfl rfl ?_ ?_
        · repeat first|(apply x2;apply r0;(with_reducible repeat exact q1 ‹_›);apply r0)|(apply xbd;apply r0)|(apply xbs;apply r0)|apply w4|(apply y4;apply r0)
          refine s_append (xs := encItms ((l.take k).map (opItm deep how))) (ys := [encItm (opItm deep how p)]) tk rfl rfl rfl rfl rfl (itms_uni _) (itms_uni1 (opItm deep how p)) rfl hm.st.own he1 (by rw [itms_len, List.length_map, List.length_take]; simp only [List.length_cons, List.length_nil]; omega) (fun p1 ha he1' => ?_)
          have z' := hm.cellA ha
          rw [itms_app, ← hst]
          repeat first|(apply xst;apply r0;(with_reducible assumption);apply r0)|apply w4|(apply y1;apply r0;apply r0)|apply y0|(apply y4;apply r0)|apply w5|apply wg
          skip
          refine ⟨p1, _, hm.next ha (encWRO ⟨deep, how, (l.take (k + 1)).map (opItm deep how), Itm.zero, false⟩ [] p1 .full), he1', (by repeat (first | exact Fr.sub_nil _ | refine Fr.sub_cons rfl ?_)), ?_⟩
          exact AHeap.sub_refl _
        · repeat first|(apply xbd;apply r0)|apply w4
          refine e_two rfl rfl ?_ ?_
          · repeat first|(apply x2;apply r0;(with_reducible repeat exact q1 ‹_›);apply r0)|(apply xbs;apply r0)|apply w4|(apply y4;apply r0)
            refine s_append (xs := encItms ((l.take k).map (opItm deep how))) (ys := [encItm (opItm deep how p)]) tk rfl rfl rfl rfl rfl (itms_uni _) (itms_uni1 (opItm deep how p)) rfl hm.st.own he1 (by rw [itms_len, List.length_map, List.length_take]; simp only [List.length_cons, List.length_nil]; omega) (fun p1 ha he1' => ?_)
            have z' := hm.cellA ha
            rw [itms_app, ← hst]
            repeat first|(apply xst;apply r0;(with_reducible assumption);apply r0)|apply w4|(apply y1;apply r0;apply r0)|apply y0|(apply y4;apply r0)|apply w5|apply wg
            skip
            refine ⟨p1, _, hm.next ha (encWRO ⟨deep, how, (l.take (k + 1)).map (opItm deep how), Itm.zero, false⟩ [] p1 .full), he1', (by repeat (first | exact Fr.sub_nil _ | refine Fr.sub_cons rfl ?_)), ?_⟩
            exact AHeap.sub_refl _
          · repeat first|(apply x2;apply r0;(with_reducible repeat exact q1 ‹_›);apply r0)|(apply xbs;apply r0)|apply w4|(apply y4;apply r0)
            refine s_append (xs := encItms ((l.take k).map (opItm deep how))) (ys := [encItm (opItm deep how p)]) tk rfl rfl rfl rfl rfl (itms_uni _) (itms_uni1 (opItm deep how p)) rfl hm.st.own he1 (by rw [itms_len, List.length_map, List.length_take]; simp only [List.length_cons, List.length_nil]; omega) (fun p1 ha he1' => ?_)
            have z' := hm.cellA ha
            rw [itms_app, ← hst]
            repeat first|(apply xst;apply r0;(with_reducible assumption);apply r0)|apply w4|(apply y1;apply r0;apply r0)|apply y0|(apply y4;apply r0)|apply w5|apply wg
            skip
            refine ⟨p1, _, hm.next ha (encWRO ⟨deep, how, (l.take (k + 1)).map (opItm deep how), Itm.zero, false⟩ [] p1 .full), he1', (by repeat (first | exact Fr.sub_nil _ | refine Fr.sub_cons rfl ?_)), ?_⟩
            exact AHeap.sub_refl _
  rintro F' H' ⟨p1, Z, hm2, he2, hF, hH⟩
  refine AW_sub ?_ hF hH
  clear hF hH
  repeat first|(apply x1;apply r0;apply r0)|apply w4|(apply x6;apply r0;omega)|apply w7|apply w5
  exact ⟨(k + 1, p1, Z), ⟨c', hm2, he2⟩, by dsimp only; omega, (by repeat (first | exact Fr.sub_nil _ | refine Fr.sub_cons rfl ?_)), AHeap.sub_refl _⟩
theorem rwenter_c {w : Wkr} {kn : List Int} {names : List ByteArray} {o0 : Own} (hp : w.last.path.size ≤ 1000000) (hn : names.length ≤ 100000) (hs : ∀ s ∈ names, s.size ≤ 1000000) (hll : w.left.length ≤ 1000000) {H : AHeap} {K : AVal → AHeap → Prop}
    (h0 : (w.deep && w.begun) = false → K (.agg (encWR w kn)) H) (h1 : (w.deep && w.begun) = true → K (.agg (encWR { w with left := enterL w names } kn)) H) : ACalls Try.prog 20 [.agg (encWR w kn), .sl (encStrs names) o0] H K := by
  refine acalls_body Try.func20 rfl rfl rfl ?_
  rw [show encWR w kn = [.sc (.int .u8 w.how), .b w.deep, .sl (encItms w.left) .no, .s w.last.path, .b w.last.op, .b w.last.fo, .b w.begun, .sl (encInts kn) .no] from rfl] at h0 ⊢
  cases hd : w.deep with
  | false =>
    rw [hd] at h0
    repeat first|apply w6|apply w7
    refine s_box rfl rfl rfl (fun b2 hb2 => ?_); have hb := hb2; (try simp only [put_none_iff, prot_none_iff] at hb); (repeat obtain ⟨_, _, hb⟩ := hb)
    skip
    refine s_alloc tk rfl rfl rfl (fun b4 hb4 => ?_); have hb := hb4; (try simp only [put_none_iff, prot_none_iff] at hb); (repeat obtain ⟨_, _, hb⟩ := hb)
    repeat first|(apply gO;first|(apply x1;apply r0;apply r0)|(apply x2;apply r0;(with_reducible repeat first|assumption|apply q0|apply ps|apply q3);apply r0)|(apply xst;apply r0;(with_reducible repeat first|assumption|apply q0|apply ps|apply q3);apply r0)|apply w4|(apply w3;apply r0;apply r0))|(apply gW;first|apply w6|apply w7|(apply w8;apply r0)|apply wd)|apply w5|apply we
    exact rt1c (H' := H) rfl rfl (by apply q0) rfl (by rfl) (by exact .refl _) (by repeat first|exact s0|(apply su1;assumption)) (h0 (by simp_all))
  | true =>
  cases hbg : w.begun with
  | false =>
    rw [hd, hbg] at h0
    repeat first|apply w6|apply w7
    refine s_box rfl rfl rfl (fun b2 hb2 => ?_); have hb := hb2; (try simp only [put_none_iff, prot_none_iff] at hb); (repeat obtain ⟨_, _, hb⟩ := hb)
    skip
    refine s_alloc tk rfl rfl rfl (fun b4 hb4 => ?_); have hb := hb4; (try simp only [put_none_iff, prot_none_iff] at hb); (repeat obtain ⟨_, _, hb⟩ := hb)
    repeat first|(apply gO;first|(apply x1;apply r0;apply r0)|(apply x2;apply r0;(with_reducible repeat first|assumption|apply q0|apply ps|apply q3);apply r0)|(apply xst;apply r0;(with_reducible repeat first|assumption|apply q0|apply ps|apply q3);apply r0)|(apply x5;apply r0)|apply w4)|(apply gW;first|apply w6|apply w7|(apply w8;apply r0)|apply wd)|apply w5|apply we
    exact rt1c (H' := H) rfl rfl (by apply q0) rfl (by rfl) (by exact .refl _) (by repeat first|exact s0|(apply su1;assumption)) (h0 (by simp_all))
  | true =>
  replace h1 := h1 (by rw [hd, hbg]; rfl)
  have hen : encWR { w with left := enterL w names } kn = [.sc (.int .u8 w.how), .b true, .sl (encItms (enterL w names)) .no, .s w.last.path, .b w.last.op, .b w.last.fo, .b true, .sl (encInts kn) .no] := by unfold encWR encWRO; rw [hd, hbg]
  rw [hen] at h1
  clear hen
  have hsz := sortB_len names
  have hmem : ∀ s ∈ sortB names, s.size ≤ 1000000 := fun s hs2 => hs s ((sortB_perm names).mem_iff.1 hs2)
  unfold enterL at h1
  generalize hso : sortB names = so at hsz hmem h1
  have lso := strs_len so
  repeat first|apply w6|apply w7
  refine s_box rfl rfl rfl (fun b2 hb2 => ?_); have hb := hb2; (try simp only [put_none_iff, prot_none_iff] at hb); (repeat obtain ⟨_, _, hb⟩ := hb)
  skip
  refine s_alloc tk rfl rfl rfl (fun b4 hb4 => ?_); have hb := hb4; (try simp only [put_none_iff, prot_none_iff] at hb); (repeat obtain ⟨_, _, hb⟩ := hb)
  have n24 : b2 ≠ b4 := by assumption
  have z2 : ((H.put b2 (.cells [.sc (.int .u8 w.how), .b true, .sl (encItms w.left) .no, .s w.last.path, .b w.last.op, .b w.last.fo, .b true, .sl (encInts kn) .no])).put b4 (.cells [.sc (.int .u8 0), .sc (.bool false), .sl [] .full, .sc (.string ⟨#[]⟩), .sc (.bool false), .sc (.bool false), .sc (.bool false), .sl [] .full])) b2 = some (.cells [.sc (.int .u8 w.how), .b true, .sl (encItms w.left) .no, .s w.last.path, .b w.last.op, .b w.last.fo, .b true, .sl (encInts kn) .no]) := by rw [put_ne n24, put_same]
  have z4 : ((H.put b2 (.cells [.sc (.int .u8 w.how), .b true, .sl (encItms w.left) .no, .s w.last.path, .b w.last.op, .b w.last.fo, .b true, .sl (encInts kn) .no])).put b4 (.cells [.sc (.int .u8 0), .sc (.bool false), .sl [] .full, .sc (.string ⟨#[]⟩), .sc (.bool false), .sc (.bool false), .sc (.bool false), .sl [] .full])) b4 = some (.cells [.sc (.int .u8 0), .sc (.bool false), .sl [] .full, .sc (.string ⟨#[]⟩), .sc (.bool false), .sc (.bool false), .sc (.bool false), .sl [] .full]) := put_same _ _ _
  have xs' : H.sub ((H.put b2 (.cells [.sc (.int .u8 w.how), .b true, .sl (encItms w.left) .no, .s w.last.path, .b w.last.op, .b w.last.fo, .b true, .sl (encInts kn) .no])).put b4 (.cells [.sc (.int .u8 0), .sc (.bool false), .sl [] .full, .sc (.string ⟨#[]⟩), .sc (.bool false), .sc (.bool false), .sc (.bool false), .sl [] .full])) := (by repeat first|exact s0|(apply su1;assumption))
  have fb4 : H b4 = none := (put_none_iff.1 hb4).2.2
  generalize (H.put b2 _).put b4 _ = X at z2 z4 xs' ⊢
  repeat first|(apply gO;first|(apply x1;apply r0;apply r0)|(apply x2;apply r0;(with_reducible repeat exact q1 ‹_›);apply r0)|(apply x5;apply r0)|(apply x9;apply r0)|apply w4)|(apply gW;first|apply w6|apply w7|(apply w9;apply r0)|apply wa)|apply w5
  refine rsorted_c (l := names) (by omega) (fun s h => by have := hs s h; omega) ?_
  rw [sorted_sortB, hso]
  repeat first|(apply x1;apply r0;apply r0)|apply w4|apply w6|apply w7|apply wb|apply w5
  refine aw_loop (fun s : Nat × Own × AHeap => s.1 ≤ so.length ∧ OwnSt X s.2.2 s.2.1 ∧ ownEs 3 s.2.1) (fun s => [(2, .ptr b2 0), (4, .ptr b4 0), (5, .sl (encStrs so) .no), (6, .sl (encItms ((so.take s.1).map (enItm w))) s.2.1), (7, .i s.1)]) (fun s => s.2.2) (fun s => so.length - s.1) (0, .full, X) ⟨Nat.zero_le _, OwnSt.full X, trivial⟩ (by repeat (first | exact Fr.sub_nil _ | refine Fr.sub_cons rfl ?_)) (AHeap.sub_refl _) ?_
  rintro ⟨k, o1, Y⟩ ⟨hk, hm, he1⟩
  dsimp only at hk hm he1 ⊢
  have yc := hm.get z2
  have hbs : ∀ b ∈ [b2], tokB o1 ≠ some b := fun b hb => by
    rw [List.mem_singleton.1 hb]; exact (hm.old _ (by rw [z2]; simp)).2
  repeat first|(apply x1;apply r0;apply r0)|apply w4|apply w6|apply w7|apply w5
  refine aw_cond rfl (fun c => ?_) (fun c => ?_)<;>first|replace c:=of_decide_eq_true c|replace c:=of_decide_eq_false c
  case refine_2 =>
    have hke : k = so.length := by omega
    subst hke
    rw [List.take_length]
    repeat first|(apply gO;first|(apply x1;apply r0;apply r0)|(apply x2;apply r0;(with_reducible repeat exact q1 ‹_›);apply r0))|(apply gW;first|apply w6|apply w7|apply wc)|apply w5|apply wf|apply wh
    refine s_append (xs := encItms (so.map (enItm w))) (ys := encItms w.left) tk rfl rfl rfl rfl rfl (itms_uni _) (itms_uni _) (flat_itms _) hm.own he1 (by rw [itms_len, itms_len, List.length_map]; omega) (fun p1 ha he1' => ?_)
    have hm2 := hm.step ha
    have zc2 := hm2.get z2
    have zc4 := hm2.get z4
    have hsz2 : H.sub ((Y.free o1).own p1) := AHeap.sub_trans xs' hm2.sub
    rw [show encItms (so.map (enItm w)) ++ encItms w.left = encItms (so.map (enItm w) ++ w.left) by simp [encItms]]
    generalize (Y.free o1).own p1 = Z at zc2 zc4 hsz2 ⊢
    repeat first|(apply gO;first|(apply x1;apply r0;apply r0)|(apply x2;apply r0;(with_reducible repeat first|assumption|apply q0|apply gp);apply r0)|(apply xst;apply r0;(with_reducible repeat first|assumption|apply q0|apply gp);apply r0)|apply w4)|(apply gW;first|apply w6|apply w7|apply wd)|apply w5
    exact rt1c (H' := H) rfl rfl (by apply q0) rfl (by rfl) (by exact wk_agg rfl) (by repeat first|assumption|(apply su1;assumption)) h1
  have c' : k < so.length := by omega
  have hget : (encStrs so)[(k : Int).toNat]? = some [.s so[k]] := strs_get so k c'
  have hst : (so.take (k + 1)).map (enItm w) = (so.take k).map (enItm w) ++ [enItm w so[k]] := by
    rw [List.take_add_one, List.getElem?_eq_getElem c', Option.toList_some, List.map_append]; rfl
  have hsk := hmem so[k] (List.getElem_mem c')
  generalize so[k] = p at hget hst hsk
  repeat first|apply w6|apply wa|apply wb|apply w5
  refine aw_prot [b2] (allc (by with_reducible repeat exact q1 ‹_›) (allc0 _)) ?_
  refine aw_plan mixed (.take 0 (.take 1 (.take 2 (.take 3 (.take 4 (.take 5 (.take 6 (.take 7 (.take 9 (.one 8 (.one 10 (.one 11 (.one 12 (.one 13 (.take 14 .done))))))))))))))) (by kernel_rfl) ?_
  repeat first|(apply y1;apply r0;apply r0)|(apply y2;apply r0;apply r0;(with_reducible repeat first|exact q1 ‹_›|apply pg|exact mm0);apply r0)
  refine d_index rfl rfl rfl rfl rfl rfl (by omega) hget rfl ?_
  repeat first|(apply x9;apply r0)|(apply y4;apply r0)|(apply y2;apply r0;apply r0;(with_reducible repeat first|exact q1 ‹_›|apply pg|exact mm0);apply r0)|(apply y3;apply r0;apply r0)
  refine rjoin_c (d := w.last.path) (s := p) (by omega) (by omega) ?_
  repeat first|(apply x9;apply r0)|apply w4|(apply y4;apply r0)
  refine rfollow_c (w := ⟨true, w.how, w.left, w.last, true⟩) (kn := kn) (o := .no) (o2 := .no) ?_
  rw [show followF true w.how false = followF w.deep w.how false by rw [hd]]
  repeat first|(apply xbd;apply r0)|(apply xbs;apply r0)|apply w4|(apply y4;apply r0)
  refine s_append (xs := encItms ((so.take k).map (enItm w))) (ys := [encItm (enItm w p)]) tk rfl rfl rfl rfl rfl (itms_uni _) (itms_uni1 _) rfl (owned_protsW hm.own hbs) he1 (by rw [itms_len, List.length_map, List.length_take]; simp only [List.length_cons, List.length_nil]; omega) (fun p1 ha he1' => ?_)
  have ha2 := apart_protW ha
  have hbs2 : ∀ b ∈ [b2], tokB p1 ≠ some b := fun b hb => by
    have := List.mem_singleton.1 hb
    subst this
    exact apart_ne ha2 yc (hbs _ List.mem_cons_self)
  have hm2 := hm.step ha2
  rw [itms_app, ← hst]
  repeat first|apply w4|(apply y1;apply r0;apply r0)|apply y0
  refine ⟨app_sameW hbs hbs2, ?_⟩
  rw [app_backW hbs hbs2]
  repeat first|(apply x1;apply r0;apply r0)|apply w4|(apply x6;apply r0;omega)|apply w7|apply w5|apply wg
  exact ⟨(k + 1, p1, (Y.free o1).own p1), ⟨c', hm2, he1'⟩, by dsimp only; omega, (by repeat (first | exact Fr.sub_nil _ | refine Fr.sub_cons rfl ?_)), AHeap.sub_refl _⟩
end Abs
end Go.Proofs.Ytbldnaflffmddaa
