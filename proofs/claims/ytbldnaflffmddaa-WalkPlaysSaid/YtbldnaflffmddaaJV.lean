import Derived.Test.YtbldnaflffmddaaJU
import Derived.Test.YtbldnaflffmddaaJM
set_option linter.unusedVariables false
namespace Go.Proofs.Ytbldnaflffmddaa
namespace Abs
set_option maxRecDepth 10000

/-! ### WalkPlays: plain law -/
structure PlI (k : Nat) (w : Wkr) (ks kn : List Int) : Prop where
  sz : ∀ i ∈ w.left, i.path.size ≤ 60 + 41 * k
  lst : w.last.path.size ≤ 60 + 41 * k
  ln : w.left.length ≤ 20 + 12 * k
  kl : kn.length ≤ k
  kk : ∀ q, ks.contains q = kn.contains q
theorem PlI.first (how : Int) (deep : Bool) {ops : List ByteArray} (h1 : ops.length ≤ 20) (h2 : ∀ s ∈ ops, s.size ≤ 60) : PlI 0 (newWk how deep ops) [] [] :=
  ⟨fun i hi => by
    obtain ⟨s, hs, rfl⟩ := List.mem_map.1 hi
    exact Nat.le_trans (h2 s hs) (by omega), Nat.zero_le _, by show (ops.map _).length ≤ _; rw [List.length_map]; omega, Nat.le_refl _, fun q => rfl⟩
theorem PlI.mono {k : Nat} {w : Wkr} {ks kn : List Int} (h : PlI k w ks kn) : PlI (k + 1) w ks kn :=
  ⟨fun i hi => Nat.le_trans (h.sz i hi) (by omega), Nat.le_trans h.lst (by omega), Nat.le_trans h.ln (by omega), Nat.le_trans h.kl (by omega), h.kk⟩
theorem PlI.next {k : Nat} {w : Wkr} {ks kn : List Int} (h : PlI k w ks kn) {i : Itm} {l : List Itm} (hl : w.left = i :: l) : PlI (k + 1) { w with left := l, last := i, begun := true } ks kn :=
  ⟨fun j hj => Nat.le_trans (h.sz j (by rw [hl]; exact List.mem_cons_of_mem _ hj)) (by omega), Nat.le_trans (h.sz i (by rw [hl]; exact List.mem_cons_self)) (by omega), by
    have := h.ln; rw [hl, List.length_cons] at this
    show l.length ≤ _; omega, Nat.le_trans h.kl (by omega), h.kk⟩
theorem PlI.see {k : Nat} {w : Wkr} {ks kn : List Int} (h : PlI k w ks kn) (n : Int) : PlI (k + 1) w (setIn ks n) (kn ++ [n]) :=
  ⟨h.mono.sz, h.mono.lst, h.mono.ln, by rw [List.length_append]; have := h.kl; simp only [List.length_cons, List.length_nil]; omega, fun q => by
    have h1 : (kn ++ [n]).contains q = (kn.contains q || decide (q = n)) := by
      rw [List.contains_eq_any_beq, List.contains_eq_any_beq, List.any_append]
      congr 1
      simp only [List.any_cons, List.any_nil, Bool.or_false]
      by_cases e : q = n
      · subst e; simp
      · rw [decide_eq_false e]; simpa using e
    rw [h1, ← h.kk q]
    unfold setIn
    split
    · rename_i hc
      by_cases e : q = n
      · subst e; rw [hc, Bool.true_or]
      · rw [decide_eq_false e, Bool.or_false]
    · rw [List.contains_eq_any_beq, List.contains_eq_any_beq, List.any_append]
      congr 1
      simp only [List.any_cons, List.any_nil, Bool.or_false]
      by_cases e : q = n
      · subst e; simp
      · rw [decide_eq_false e]; simpa using e⟩
theorem PlI.enter {k : Nat} {w : Wkr} {ks kn : List Int} (h : PlI k w ks kn) {names : List ByteArray} (h1 : names.length ≤ 12) (h2 : ∀ s ∈ names, s.size ≤ 40) : PlI (k + 1) { w with left := enterL w names } ks kn :=
  ⟨fun i hi => by
    rcases List.mem_append.1 hi with hi | hi
    · obtain ⟨s, hs, rfl⟩ := List.mem_map.1 hi
      have h3 := h2 s ((sortB_perm names).mem_iff.1 hs)
      have h4 := join_size2 w.last.path s
      have h5 := h.lst
      show (joinOf w.last.path s).size ≤ _
      omega
    · exact h.mono.sz i hi, h.mono.lst, by
    show (enterL w names).length ≤ _
    unfold enterL
    rw [List.length_append, List.length_map, sortB_len]
    have := h.ln; omega, h.mono.kl, h.kk⟩
theorem WkAt.prot {H : AHeap} {bw bd bh bm : Nat} {w : Wkr} (h : WkAt H bw bd bh bm w) {bs : List Nat} (hb : bw ∉ bs) : WkAt (H.prot bs) bw bd bh bm w :=
  ⟨(prot_other hb).trans h.cells, rd_prot h.deep, rd_prot h.how, h.nd, h.nh⟩
end Abs
end Go.Proofs.Ytbldnaflffmddaa

set_option linter.unusedVariables false
namespace Go.Proofs.Ytbldnaflffmddaa
namespace Abs
set_option linter.unusedSimpArgs false
set_option maxRecDepth 10000
set_option maxHeartbeats 2000000
attribute [local irreducible] AOps AW AP ACalls thenQ inBlk noGoto

/-! ### WalkPlays -/
theorem walkPlays_c {how : Int} {deep : Bool} {ops : List ByteArray} {l : List Act20} (hol : ops.length ≤ 9223372036854775807) (hll : l.length ≤ 9223372036854775807) (hnl : ∀ a ∈ l, a.names.length ≤ 9223372036854775807) {H : AHeap} {K : AVal → AHeap → Prop} (hK : K (.b true) H) :
    ACalls Try.prog 5 [.sc (.int .u8 how), .b deep, .sl (encStrs ops) .no, .sl (encA20s l) .no] H K := by
  refine acalls_body Try.func5 rfl rfl rfl ?_
  have lo := strs_len ops
  have ll := a20_len l
  repeat first|(apply x1;apply r0;apply r0)|(apply x9;apply r0)|apply w4|apply w6|apply w7|apply w5
  refine awake20_c ?_
  repeat first|(apply gO;first|(apply x1;apply r0;apply r0)|(apply x9;apply r0)|apply w4)|(apply gW;first|apply w6|apply w7|(apply w9;apply r0)|apply wa)|apply w5
  refine few20_c hll hnl (fun q1' hq1 => ?_)
  cases q1' with
  | false =>
    repeat first|(apply gO;first|(apply x1;apply r0;apply r0)|apply w4|(apply w3;apply r0;apply r0))|(apply gW;first|apply w6|apply w7|(apply w8;apply r0)|apply wd)|apply w5|apply we
    exact rt1 (H' := H) rfl rfl (.refl _) s0 hK
  | true =>
  repeat first|(apply x1;apply r0;apply r0)|(apply x5;apply r0)|(apply x9;apply r0)
  refine short_c hol (fun q2' hq2 => ?_)
  cases q2' with
  | false =>
    repeat first|(apply gO;first|(apply x1;apply r0;apply r0)|apply w4)|(apply gW;first|apply w6|apply w7|(apply w8;apply r0)|apply wd)|apply w5|apply we
    exact rt1 (H' := H) rfl rfl (.refl _) s0 hK
  | true =>
  obtain ⟨hl40, hfew⟩ := hq1 rfl
  obtain ⟨ho20, ho60⟩ := hq2 rfl
  repeat first|(apply gO;first|(apply x1;apply r0;apply r0)|(apply x9;apply r0)|apply w4)|(apply gW;first|apply w6|apply w7|(apply w9;apply r0)|apply wa)|apply w5
  refine wnew_c (how := how) (deep := deep) (l := ops) (by omega) (fun X bw bd bh bm hox hsx hbw hbm nmw ndm nhm hmm hw => ?_)
  repeat first|(apply x1;apply r0;apply r0)|(apply x9;apply r0)|apply w4|apply w6|apply w7|apply w5
  refine rwnew_c (how := how) (deep := deep) (l := ops) (by omega) ?_
  skip
  refine s_alloc tk rfl rfl rfl (fun b12 hb12 => ?_); have hb := hb12; (try simp only [put_none_iff, prot_none_iff] at hb); (repeat obtain ⟨_, _, hb⟩ := hb)
  repeat first|(apply x1;apply r0;apply r0)|(apply xst;apply r0;(apply ps);apply r0)|apply w4|apply w6|apply w7|apply wb|apply w5
  rw [put_put]
  have n12w : b12 ≠ bw := Ne.symm (get_ne hw.cells hb12)
  have n12d : b12 ≠ bd := Ne.symm (rd_ne hw.deep hb12)
  have n12h : b12 ≠ bh := Ne.symm (rd_ne hw.how hb12)
  have n12m : b12 ≠ bm := Ne.symm (get_ne hmm hb12)
  have m12w := Ne.symm n12w
  have mmw := Ne.symm nmw
  have m12d := Ne.symm n12d
  have m12h := Ne.symm n12h
  have m12m := Ne.symm n12m
  have f12 : H b12 = none := sub_none hsx hb12
  have fbw : H bw = none := hbw
  have fbm : H bm = none := hbm
  have hm0 : (X.put b12 (.cells (encWR (newWk how deep ops) []))) bm = some (.amap (encSet [])) := by rw [put_ne (Ne.symm n12m)]; exact hmm
  refine aw_loop (fun s : Nat × Wkr × List Int × List Int × AHeap => s.1 ≤ l.length ∧ PlI s.1 s.2.1 s.2.2.1 s.2.2.2.1 ∧ WkAt s.2.2.2.2 bw bd bh bm s.2.1 ∧ s.2.2.2.2 bm = some (.amap (encSet s.2.2.1)) ∧ s.2.2.2.2 b12 = some (.cells (encWR s.2.1 s.2.2.2.1)) ∧ H.sub s.2.2.2.2) (fun s => [(3, .sl (encA20s l) .no), (11, .ptr bw 0), (12, .ptr b12 0), (13, .nilp), (14, .i s.1)]) (fun s => s.2.2.2.2) (fun s => l.length - s.1) (0, newWk how deep ops, [], [], X.put b12 (.cells (encWR (newWk how deep ops) []))) ⟨Nat.zero_le _, PlI.first how deep ho20 ho60, hw.other hb12 _, hm0, put_same _ _ _, AHeap.sub_put hsx _ f12⟩ (by repeat (first | exact Fr.sub_nil _ | refine Fr.sub_cons rfl ?_)) (AHeap.sub_refl _) ?_
  clear hw hmm hm0 hsx hox hb12
  rintro ⟨k, w, ks, kn, Y⟩ ⟨hk, hI, hw, hm, hr, hsy⟩
  dsimp only at hk hI hw hm hr hsy ⊢
  have hln := hI.ln
  have hkl := hI.kl
  have hwc := hw.cells
  have hwd := hw.deep
  have hwh := hw.how
  have nb12 : bw ∉ [b12] := by rw [List.mem_singleton]; exact Ne.symm n12w
  repeat first|(apply x1;apply r0;apply r0)|apply w4|apply w6|apply w7|apply w5
  refine aw_cond rfl (fun c1 => ?_) (fun c1 => ?_)<;>first|replace c1:=of_decide_eq_true c1|replace c1:=of_decide_eq_false c1
  case refine_2 =>
    repeat first|apply w6|apply wc|apply w5|apply wf|apply wh
    refine aw_prot [b12] (allc (by with_reducible repeat exact q1 ‹_›) (allc0 _)) ?_
    refine aw_plan mixed (.take 0 (.take 2 (.take 3 (.take 4 (.one 1 (.take 5 (.take 6 .done))))))) (by kernel_rfl) ?_
    repeat first|(apply x9;apply r0)|(apply y1;apply r0;apply r0)|(apply y4;apply r0)|(apply y2;apply r0;apply r0;(with_reducible repeat first|exact q1 ‹_›|apply pg|exact mm0);apply r0)
    refine left_c (hw.prot nb12) ?_
    repeat first|apply w4|(apply y1;apply r0;apply r0)|apply y0
    refine prot_done ?_
    rw [itms_len, decide_eq_true rfl]
    repeat first|apply wd|apply w5
    exact rt1 (H' := H) rfl rfl (.refl _) (by repeat assumption) hK
  have c1' : k < l.length := by omega
  have hget := a20_get l k c1'
  have hfa := hfew l[k] (List.getElem_mem c1')
  generalize l[k] = a at hget hfa
  apply wa; apply w5; apply w6; apply wb; apply w6
  refine aw_cutS (fun F' H' => ∃ w2 ks2 kn2 Z, PlI (k + 1) w2 ks2 kn2 ∧ WkAt Z bw bd bh bm w2 ∧ Z bm = some (.amap (encSet ks2)) ∧ Z b12 = some (.cells (encWR w2 kn2)) ∧ H.sub Z ∧ Fr.sub [(3, .sl (encA20s l) .no), (11, .ptr bw 0), (12, .ptr b12 0), (13, .nilp), (14, .i k)] F' ∧ Z.sub H') ?_ ?_
  · repeat first|(apply x1;apply r0;apply r0)|apply w6|apply w7
    refine s_index tk rfl rfl rfl rfl (by omega) hget rfl ?_
    repeat first|(apply x1;apply r0;apply r0)|(apply x3;apply r0)|apply w4|apply w6|apply w7|apply wb|apply w5
    refine aw_cond rfl (fun c2 => ?_) (fun c2 => ?_)<;>first|replace c2:=of_decide_eq_true c2|replace c2:=of_decide_eq_false c2
    · repeat first|(apply x1;apply r0;apply r0)|(apply x9;apply r0)|apply w6|apply w7
      refine wnext_c hw (fun hn => ?_) (fun i' l' hn => ?_)
      · repeat (apply x1;apply r0;apply r0)
        refine s_alloc tk rfl rfl rfl (fun b15 hb15 => ?_); have hb := hb15; (try simp only [put_none_iff, prot_none_iff] at hb); (repeat obtain ⟨_, _, hb⟩ := hb)
        repeat first|(apply gO;first|(apply x1;apply r0;apply r0)|(apply x2;apply r0;(with_reducible repeat first|apply ps|exact q1 ‹_›|apply q3|exact n2 ‹_› ‹_›);apply r0)|(apply xst;apply r0;(with_reducible repeat first|apply ps|exact q1 ‹_›|apply q3|exact n2 ‹_› ‹_›);apply r0)|(apply x9;apply r0)|apply w4)|(apply gW;first|apply w6|apply w7)|apply w5
        refine rnext_c (w := w) (kn := kn) (by omega) (fun hq => ?_) (fun i2 l2 hq => ?_)
        case refine_2 => rw [hn] at hq; cases hq
        have hI' := hI.mono
        generalize Itm.zero = it
        obtain ⟨ip, iop, ifo⟩ := it
        repeat (apply x1;apply r0;apply r0)
        refine s_alloc tk rfl rfl rfl (fun b17 hb17 => ?_); have hb := hb17; (try simp only [put_none_iff, prot_none_iff] at hb); (repeat obtain ⟨_, _, hb⟩ := hb)
        skip
        refine s_alloc tk rfl rfl rfl (fun b18 hb18 => ?_); have hb := hb18; (try simp only [put_none_iff, prot_none_iff] at hb); (repeat obtain ⟨_, _, hb⟩ := hb)
        repeat first|(apply gO;first|(apply x1;apply r0;apply r0)|(apply x2;apply r0;(with_reducible repeat first|assumption|apply q0|apply ps|apply q3|apply gp|exact n2 ‹_› ‹_›);apply r0)|(apply xst;apply r0;(with_reducible repeat first|assumption|apply q0|apply ps|apply q3|apply gp|exact n2 ‹_› ‹_›);apply r0)|(apply x9;apply r0)|apply w4)|(apply gW;first|apply w6|apply w7)|apply w5
        refine wnext_nil ?_
        repeat (apply x1;apply r0;apply r0)
        refine s_alloc tk rfl rfl rfl (fun b20 hb20 => ?_); have hb := hb20; (try simp only [put_none_iff, prot_none_iff] at hb); (repeat obtain ⟨_, _, hb⟩ := hb)
        repeat first|(apply gO;first|(apply x1;apply r0;apply r0)|(apply x2;apply r0;(with_reducible repeat first|assumption|apply q0|apply ps|apply q3|exact n4 ‹_› ‹_›);apply r0)|(apply xst;apply r0;(with_reducible repeat first|assumption|apply q0|apply ps|apply q3|exact n4 ‹_› ‹_›);apply r0)|(apply x5;apply r0)|apply w4)|(apply gW;first|apply w6|apply w7)|apply w5
        refine s_gsplit rfl rfl (fun e1 => ?_) (fun e1 => ?_)<;>first|replace e1:=not_t e1|replace e1:=not_f e1
        · exact absurd rfl e1
        repeat first|(apply x1;apply r0;apply r0)|(apply x2;apply r0;(with_reducible repeat first|assumption|apply q0|apply q3|exact n4 ‹_› ‹_›);apply r0)|(apply x5;apply r0)
        refine s_gsplit rfl rfl (fun e2 => ?_) (fun e2 => ?_)<;>first|replace e2:=not_t e2|replace e2:=not_f e2
        · exact absurd rfl e2
        repeat first|(apply x1;apply r0;apply r0)|(apply x2;apply r0;(with_reducible repeat first|assumption|apply q0|apply q3|exact n4 ‹_› ‹_›);apply r0)|(apply x5;apply r0)
        refine s_gsplit rfl rfl (fun e3 => ?_) (fun e3 => ?_)<;>first|replace e3:=not_t e3|replace e3:=not_f e3
        · exact absurd rfl e3
        repeat first|(apply x1;apply r0;apply r0)|(apply x5;apply r0)|apply w4|(apply w9;apply r0)|apply wa|apply w5|apply wg
        exact ⟨w, ks, kn, _, hI', ⟨(by with_reducible repeat first|assumption|apply gp|exact n2 ‹_› ‹_›), (by with_reducible repeat first|assumption|apply q3|exact n1 ‹_› ‹_›), (by with_reducible repeat first|assumption|apply q3|exact n1 ‹_› ‹_›), hw.nd, hw.nh⟩, (by with_reducible repeat first|assumption|apply gp|exact n2 ‹_› ‹_›), (by with_reducible repeat first|assumption|apply ps|apply gp), (by repeat first|assumption|(apply su1;assumption)|(apply su3;assumption;assumption)), (by repeat (first | exact Fr.sub_nil _ | refine Fr.sub_cons rfl ?_)), AHeap.sub_refl _⟩
      · have hI' := hI.next hn
        replace hw := hw.put (w' := { w with left := l', last := i', begun := true }) rfl rfl
        have hm' : (Y.put bw (.cells (encWk { w with left := l', last := i', begun := true } bd bh bm))) bm = some (.amap (encSet ks)) := by rw [put_ne nmw]; exact hm
        have hr' : (Y.put bw (.cells (encWk { w with left := l', last := i', begun := true } bd bh bm))) b12 = some (.cells (encWR w kn)) := by rw [put_ne n12w]; exact hr
        have hsy' : H.sub (Y.put bw (.cells (encWk { w with left := l', last := i', begun := true } bd bh bm))) := AHeap.sub_put hsy _ hbw
        clear hwc hwd hwh hm hr hsy
        generalize Y.put bw _ = Y0 at hw hm' hr' hsy' ⊢
        have hwc := hw.cells
        have hwd := hw.deep
        have hwh := hw.how
        repeat (apply x1;apply r0;apply r0)
        refine s_alloc tk rfl rfl rfl (fun b15 hb15 => ?_); have hb := hb15; (try simp only [put_none_iff, prot_none_iff] at hb); (repeat obtain ⟨_, _, hb⟩ := hb)
        repeat first|(apply gO;first|(apply x1;apply r0;apply r0)|(apply x2;apply r0;(with_reducible repeat first|apply ps|exact q1 ‹_›|apply q3|exact n2 ‹_› ‹_›);apply r0)|(apply xst;apply r0;(with_reducible repeat first|apply ps|exact q1 ‹_›|apply q3|exact n2 ‹_› ‹_›);apply r0)|(apply x9;apply r0)|apply w4)|(apply gW;first|apply w6|apply w7)|apply w5
        refine rnext_c (w := w) (kn := kn) (by omega) (fun hq => ?_) (fun i2 l2 hq => ?_)
        · rw [hn] at hq; cases hq
        rw [hn] at hq
        cases hq
        obtain ⟨ip, iop, ifo⟩ := i'
        repeat (apply x1;apply r0;apply r0)
        refine s_alloc tk rfl rfl rfl (fun b17 hb17 => ?_); have hb := hb17; (try simp only [put_none_iff, prot_none_iff] at hb); (repeat obtain ⟨_, _, hb⟩ := hb)
        skip
        refine s_alloc tk rfl rfl rfl (fun b18 hb18 => ?_); have hb := hb18; (try simp only [put_none_iff, prot_none_iff] at hb); (repeat obtain ⟨_, _, hb⟩ := hb)
        repeat first|(apply gO;first|(apply x1;apply r0;apply r0)|(apply x2;apply r0;(with_reducible repeat first|assumption|apply q0|apply ps|apply q3|apply gp|exact n2 ‹_› ‹_›);apply r0)|(apply xst;apply r0;(with_reducible repeat first|assumption|apply q0|apply ps|apply q3|apply gp|exact n2 ‹_› ‹_›);apply r0)|(apply x9;apply r0)|apply w4)|(apply gW;first|apply w6|apply w7)|apply w5
        refine wnext_nil ?_
        repeat (apply x1;apply r0;apply r0)
        refine s_alloc tk rfl rfl rfl (fun b20 hb20 => ?_); have hb := hb20; (try simp only [put_none_iff, prot_none_iff] at hb); (repeat obtain ⟨_, _, hb⟩ := hb)
        repeat first|(apply gO;first|(apply x1;apply r0;apply r0)|(apply x2;apply r0;(with_reducible repeat first|assumption|apply q0|apply ps|apply q3|exact n4 ‹_› ‹_›);apply r0)|(apply xst;apply r0;(with_reducible repeat first|assumption|apply q0|apply ps|apply q3|exact n4 ‹_› ‹_›);apply r0)|(apply x5;apply r0)|apply w4)|(apply gW;first|apply w6|apply w7)|apply w5
        refine s_gsplit rfl rfl (fun e1 => ?_) (fun e1 => ?_)<;>first|replace e1:=not_t e1|replace e1:=not_f e1
        · exact absurd rfl e1
        repeat first|(apply x1;apply r0;apply r0)|(apply x2;apply r0;(with_reducible repeat first|assumption|apply q0|apply q3|exact n4 ‹_› ‹_›);apply r0)|(apply x5;apply r0)
        refine s_gsplit rfl rfl (fun e2 => ?_) (fun e2 => ?_)<;>first|replace e2:=not_t e2|replace e2:=not_f e2
        · exact absurd rfl e2
        repeat first|(apply x1;apply r0;apply r0)|(apply x2;apply r0;(with_reducible repeat first|assumption|apply q0|apply q3|exact n4 ‹_› ‹_›);apply r0)|(apply x5;apply r0)
        refine s_gsplit rfl rfl (fun e3 => ?_) (fun e3 => ?_)<;>first|replace e3:=not_t e3|replace e3:=not_f e3
        · exact absurd rfl e3
        repeat first|(apply x1;apply r0;apply r0)|(apply x5;apply r0)|apply w4|(apply w9;apply r0)|apply wa|apply w5|apply wg
        exact ⟨{ w with left := l', last := ⟨ip, iop, ifo⟩, begun := true }, ks, kn, _, hI', ⟨(by with_reducible repeat first|assumption|apply gp|exact n2 ‹_› ‹_›), (by with_reducible repeat first|assumption|apply q3|exact n1 ‹_› ‹_›), (by with_reducible repeat first|assumption|apply q3|exact n1 ‹_› ‹_›), hw.nd, hw.nh⟩, (by with_reducible repeat first|assumption|apply gp|exact n2 ‹_› ‹_›), (by with_reducible repeat first|assumption|apply ps|apply gp), (by repeat first|assumption|(apply su1;assumption)|(apply su3;assumption;assumption)), (by repeat (first | exact Fr.sub_nil _ | refine Fr.sub_cons rfl ?_)), AHeap.sub_refl _⟩
    repeat first|(apply x1;apply r0;apply r0)|apply w4|apply w6|apply w7|apply w5
    refine aw_cond rfl (fun c3 => ?_) (fun c3 => ?_)<;>first|replace c3:=of_decide_eq_true c3|replace c3:=of_decide_eq_false c3
    · repeat apply w6
      by_cases hs : w.deep = true ∧ a.st.2.1 = 2
      · have hI' := hI.see a.st.1
        refine aw_prot [b12] (allc (by with_reducible repeat exact q1 ‹_›) (allc0 _)) ?_
        refine aw_plan mixed (.take 0 (.take 1 (.take 2 (.take 3 (.take 4 (.take 5 (.two 6 10 (.take 7 (.take 8 (.take 9 (.one 10 (.one 11 (.take 12 .done)))))) (.one 6 (.take 7 (.take 8 (.take 9 (.one 11 (.take 12 .done))))))))))))) (by kernel_rfl) ?_
        repeat first|(apply y1;apply r0;apply r0)|(apply y2;apply r0;apply r0;(with_reducible repeat first|exact q1 ‹_›|apply pg|exact mm0);apply r0)
        refine d_index rfl rfl rfl rfl rfl rfl (by omega) hget rfl ?_
        repeat first|(apply y1;apply r0;apply r0)|(apply y3;apply r0;apply r0)
        refine e_two rfl rfl ?_ ?_
        · repeat (apply x9;apply r0)
          refine rsee_c (w := w) (kn := kn) (by omega) (fun h => absurd h (by rcases hs with ⟨hs1, hs2⟩; rw [hs1]; simp [hs2])) (fun _ _ => ?_)
          repeat first|apply w4|(apply y1;apply r0;apply r0)|(apply y4;apply r0)
          refine s_alloc tk rfl rfl rfl (fun b22 hb22 => ?_); have hb := hb22; (try simp only [put_none_iff, prot_none_iff] at hb); (repeat obtain ⟨_, _, hb⟩ := hb)
          repeat first|(apply xst;apply r0;(apply ps);apply r0)|apply w4|(apply y1;apply r0;apply r0)|apply y0|(apply y4;apply r0)
          refine prot_done_put2 (by simp only [List.mem_cons,List.not_mem_nil,or_false,not_or]; first|exact (by first|assumption|exact n1 ‹_› ‹_›|exact n2 ‹_› ‹_›|exact n3 ‹_› ‹_›|exact n4 ‹_› ‹_›)|exact ⟨(by first|assumption|exact n1 ‹_› ‹_›|exact n2 ‹_› ‹_›|exact n3 ‹_› ‹_›|exact n4 ‹_› ‹_›),(by first|assumption|exact n1 ‹_› ‹_›|exact n2 ‹_› ‹_›|exact n3 ‹_› ‹_›|exact n4 ‹_› ‹_›)⟩|exact ⟨(by first|assumption|exact n1 ‹_› ‹_›|exact n2 ‹_› ‹_›|exact n3 ‹_› ‹_›|exact n4 ‹_› ‹_›),(by first|assumption|exact n1 ‹_› ‹_›|exact n2 ‹_› ‹_›|exact n3 ‹_› ‹_›|exact n4 ‹_› ‹_›),(by first|assumption|exact n1 ‹_› ‹_›|exact n2 ‹_› ‹_›|exact n3 ‹_› ‹_›|exact n4 ‹_› ‹_›)⟩) (by simp only [List.mem_cons,List.not_mem_nil,or_false,not_or]; first|exact (by first|assumption|exact n1 ‹_› ‹_›|exact n2 ‹_› ‹_›|exact n3 ‹_› ‹_›|exact n4 ‹_› ‹_›)|exact ⟨(by first|assumption|exact n1 ‹_› ‹_›|exact n2 ‹_› ‹_›|exact n3 ‹_› ‹_›|exact n4 ‹_› ‹_›),(by first|assumption|exact n1 ‹_› ‹_›|exact n2 ‹_› ‹_›|exact n3 ‹_› ‹_›|exact n4 ‹_› ‹_›)⟩|exact ⟨(by first|assumption|exact n1 ‹_› ‹_›|exact n2 ‹_› ‹_›|exact n3 ‹_› ‹_›|exact n4 ‹_› ‹_›),(by first|assumption|exact n1 ‹_› ‹_›|exact n2 ‹_› ‹_›|exact n3 ‹_› ‹_›|exact n4 ‹_› ‹_›),(by first|assumption|exact n1 ‹_› ‹_›|exact n2 ‹_› ‹_›|exact n3 ‹_› ‹_›|exact n4 ‹_› ‹_›)⟩) ?_
          repeat first|(apply x1;apply r0;apply r0)|(apply x2;apply r0;(with_reducible repeat first|assumption|apply q0|apply gp|exact n2 ‹_› ‹_›);apply r0)|(apply xst;apply r0;(with_reducible repeat first|assumption|apply q0|apply gp|exact n2 ‹_› ‹_›);apply r0)|apply w4|apply w6|apply w7|apply w5
          refine s_index tk rfl rfl rfl rfl (by omega) hget rfl ?_
          repeat first|(apply x1;apply r0;apply r0)|(apply x3;apply r0)|(apply x9;apply r0)
          refine see_c (ks := ks) (w := w) ⟨(by with_reducible repeat first|assumption|apply gp|exact n2 ‹_› ‹_›), (by with_reducible repeat first|assumption|apply q3|exact n1 ‹_› ‹_›), (by with_reducible repeat first|assumption|apply q3|exact n1 ‹_› ‹_›), hw.nd, hw.nh⟩ (fun _ => (by with_reducible repeat first|assumption|apply gp|exact n2 ‹_› ‹_›)) nmw (fun h => absurd h (by rcases hs with ⟨hs1, hs2⟩; rw [hs1]; simp [hs2])) (fun _ _ => ?_)
          rw [hI.kk]
          repeat (apply x1;apply r0;apply r0)
          refine s_gsplit rfl rfl (fun e1 => ?_) (fun e1 => ?_)<;>first|replace e1:=not_t e1|replace e1:=not_f e1
          · exact absurd rfl e1
          repeat first|(apply x1;apply r0;apply r0)|(apply x5;apply r0)
          refine s_index tk rfl rfl rfl rfl (by omega) hget rfl ?_
          repeat first|(apply x1;apply r0;apply r0)|(apply x3;apply r0)|(apply x5;apply r0)|(apply x9;apply r0)
          refine see_nil ?_
          repeat first|(apply x1;apply r0;apply r0)|apply w4|(apply w9;apply r0)|apply wa|apply w5|apply wg
          exact ⟨w, setIn ks a.st.1, kn ++ [a.st.1], _, hI', ⟨(by with_reducible repeat first|assumption|apply gp|exact n2 ‹_› ‹_›), (by with_reducible repeat first|assumption|apply q3|exact n1 ‹_› ‹_›), (by with_reducible repeat first|assumption|apply q3|exact n1 ‹_› ‹_›), hw.nd, hw.nh⟩, (by apply ps), (by with_reducible repeat first|assumption|apply ps|apply gp), (by repeat first|assumption|(apply su1;assumption)|(apply su3;assumption;assumption)), (by repeat (first | exact Fr.sub_nil _ | refine Fr.sub_cons rfl ?_)), AHeap.sub_refl _⟩
        · skip
          refine s_alloc tk rfl rfl rfl (fun b22 hb22 => ?_); have hb := hb22; (try simp only [put_none_iff, prot_none_iff] at hb); (repeat obtain ⟨_, _, hb⟩ := hb)
          repeat first|(apply x9;apply r0)|apply w4|(apply y4;apply r0)
          refine rsee_c (w := w) (kn := kn) (by omega) (fun h => absurd h (by rcases hs with ⟨hs1, hs2⟩; rw [hs1]; simp [hs2])) (fun _ _ => ?_)
          repeat first|(apply xst;apply r0;(apply ps);apply r0)|apply w4|(apply y1;apply r0;apply r0)|apply y0|(apply y4;apply r0)
          refine prot_done_put2 (by simp only [List.mem_cons,List.not_mem_nil,or_false,not_or]; first|exact (by first|assumption|exact n1 ‹_› ‹_›|exact n2 ‹_› ‹_›|exact n3 ‹_› ‹_›|exact n4 ‹_› ‹_›)|exact ⟨(by first|assumption|exact n1 ‹_› ‹_›|exact n2 ‹_› ‹_›|exact n3 ‹_› ‹_›|exact n4 ‹_› ‹_›),(by first|assumption|exact n1 ‹_› ‹_›|exact n2 ‹_› ‹_›|exact n3 ‹_› ‹_›|exact n4 ‹_› ‹_›)⟩|exact ⟨(by first|assumption|exact n1 ‹_› ‹_›|exact n2 ‹_› ‹_›|exact n3 ‹_› ‹_›|exact n4 ‹_› ‹_›),(by first|assumption|exact n1 ‹_› ‹_›|exact n2 ‹_› ‹_›|exact n3 ‹_› ‹_›|exact n4 ‹_› ‹_›),(by first|assumption|exact n1 ‹_› ‹_›|exact n2 ‹_› ‹_›|exact n3 ‹_› ‹_›|exact n4 ‹_› ‹_›)⟩) (by simp only [List.mem_cons,List.not_mem_nil,or_false,not_or]; first|exact (by first|assumption|exact n1 ‹_› ‹_›|exact n2 ‹_› ‹_›|exact n3 ‹_› ‹_›|exact n4 ‹_› ‹_›)|exact ⟨(by first|assumption|exact n1 ‹_› ‹_›|exact n2 ‹_› ‹_›|exact n3 ‹_› ‹_›|exact n4 ‹_› ‹_›),(by first|assumption|exact n1 ‹_› ‹_›|exact n2 ‹_› ‹_›|exact n3 ‹_› ‹_›|exact n4 ‹_› ‹_›)⟩|exact ⟨(by first|assumption|exact n1 ‹_› ‹_›|exact n2 ‹_› ‹_›|exact n3 ‹_› ‹_›|exact n4 ‹_› ‹_›),(by first|assumption|exact n1 ‹_› ‹_›|exact n2 ‹_› ‹_›|exact n3 ‹_› ‹_›|exact n4 ‹_› ‹_›),(by first|assumption|exact n1 ‹_› ‹_›|exact n2 ‹_› ‹_›|exact n3 ‹_› ‹_›|exact n4 ‹_› ‹_›)⟩) ?_
          repeat first|(apply x1;apply r0;apply r0)|(apply x2;apply r0;(with_reducible repeat first|assumption|apply q0|apply gp|exact n2 ‹_› ‹_›);apply r0)|(apply xst;apply r0;(with_reducible repeat first|assumption|apply q0|apply gp|exact n2 ‹_› ‹_›);apply r0)|apply w4|apply w6|apply w7|apply w5
          refine s_index tk rfl rfl rfl rfl (by omega) hget rfl ?_
          repeat first|(apply x1;apply r0;apply r0)|(apply x3;apply r0)|(apply x9;apply r0)
          refine see_c (ks := ks) (w := w) ⟨(by with_reducible repeat first|assumption|apply gp|exact n2 ‹_› ‹_›), (by with_reducible repeat first|assumption|apply q3|exact n1 ‹_› ‹_›), (by with_reducible repeat first|assumption|apply q3|exact n1 ‹_› ‹_›), hw.nd, hw.nh⟩ (fun _ => (by with_reducible repeat first|assumption|apply gp|exact n2 ‹_› ‹_›)) nmw (fun h => absurd h (by rcases hs with ⟨hs1, hs2⟩; rw [hs1]; simp [hs2])) (fun _ _ => ?_)
          rw [hI.kk]
          repeat (apply x1;apply r0;apply r0)
          refine s_gsplit rfl rfl (fun e1 => ?_) (fun e1 => ?_)<;>first|replace e1:=not_t e1|replace e1:=not_f e1
          · exact absurd rfl e1
          repeat first|(apply x1;apply r0;apply r0)|(apply x5;apply r0)
          refine s_index tk rfl rfl rfl rfl (by omega) hget rfl ?_
          repeat first|(apply x1;apply r0;apply r0)|(apply x3;apply r0)|(apply x5;apply r0)|(apply x9;apply r0)
          refine see_nil ?_
          repeat first|(apply x1;apply r0;apply r0)|apply w4|(apply w9;apply r0)|apply wa|apply w5|apply wg
          exact ⟨w, setIn ks a.st.1, kn ++ [a.st.1], _, hI', ⟨(by with_reducible repeat first|assumption|apply gp|exact n2 ‹_› ‹_›), (by with_reducible repeat first|assumption|apply q3|exact n1 ‹_› ‹_›), (by with_reducible repeat first|assumption|apply q3|exact n1 ‹_› ‹_›), hw.nd, hw.nh⟩, (by apply ps), (by with_reducible repeat first|assumption|apply ps|apply gp), (by repeat first|assumption|(apply su1;assumption)|(apply su3;assumption;assumption)), (by repeat (first | exact Fr.sub_nil _ | refine Fr.sub_cons rfl ?_)), AHeap.sub_refl _⟩
      · have hI' := hI.mono
        refine aw_prot [b12] (allc (by with_reducible repeat exact q1 ‹_›) (allc0 _)) ?_
        refine aw_plan mixed (.take 0 (.take 1 (.take 2 (.take 3 (.take 4 (.take 5 (.two 6 10 (.take 7 (.take 8 (.take 9 (.one 10 (.one 11 (.take 12 .done)))))) (.one 6 (.take 7 (.take 8 (.take 9 (.one 11 (.take 12 .done))))))))))))) (by kernel_rfl) ?_
        repeat first|(apply y1;apply r0;apply r0)|(apply y2;apply r0;apply r0;(with_reducible repeat first|exact q1 ‹_›|apply pg|exact mm0);apply r0)
        refine d_index rfl rfl rfl rfl rfl rfl (by omega) hget rfl ?_
        repeat first|(apply y1;apply r0;apply r0)|(apply y3;apply r0;apply r0)
        refine e_two rfl rfl ?_ ?_
        · repeat (apply x9;apply r0)
          refine rsee_c (w := w) (kn := kn) (by omega) (fun _ => ?_) (fun h1 h2 => absurd ⟨h1, h2⟩ hs)
          repeat first|apply w4|(apply y1;apply r0;apply r0)|(apply y4;apply r0)
          refine s_alloc tk rfl rfl rfl (fun b22 hb22 => ?_); have hb := hb22; (try simp only [put_none_iff, prot_none_iff] at hb); (repeat obtain ⟨_, _, hb⟩ := hb)
          repeat first|(apply xst;apply r0;(apply ps);apply r0)|apply w4|(apply y1;apply r0;apply r0)|apply y0|(apply y4;apply r0)
          refine prot_done_put2 (by simp only [List.mem_cons,List.not_mem_nil,or_false,not_or]; first|exact (by first|assumption|exact n1 ‹_› ‹_›|exact n2 ‹_› ‹_›|exact n3 ‹_› ‹_›|exact n4 ‹_› ‹_›)|exact ⟨(by first|assumption|exact n1 ‹_› ‹_›|exact n2 ‹_› ‹_›|exact n3 ‹_› ‹_›|exact n4 ‹_› ‹_›),(by first|assumption|exact n1 ‹_› ‹_›|exact n2 ‹_› ‹_›|exact n3 ‹_› ‹_›|exact n4 ‹_› ‹_›)⟩|exact ⟨(by first|assumption|exact n1 ‹_› ‹_›|exact n2 ‹_› ‹_›|exact n3 ‹_› ‹_›|exact n4 ‹_› ‹_›),(by first|assumption|exact n1 ‹_› ‹_›|exact n2 ‹_› ‹_›|exact n3 ‹_› ‹_›|exact n4 ‹_› ‹_›),(by first|assumption|exact n1 ‹_› ‹_›|exact n2 ‹_› ‹_›|exact n3 ‹_› ‹_›|exact n4 ‹_› ‹_›)⟩) (by simp only [List.mem_cons,List.not_mem_nil,or_false,not_or]; first|exact (by first|assumption|exact n1 ‹_› ‹_›|exact n2 ‹_› ‹_›|exact n3 ‹_› ‹_›|exact n4 ‹_› ‹_›)|exact ⟨(by first|assumption|exact n1 ‹_› ‹_›|exact n2 ‹_› ‹_›|exact n3 ‹_› ‹_›|exact n4 ‹_› ‹_›),(by first|assumption|exact n1 ‹_› ‹_›|exact n2 ‹_› ‹_›|exact n3 ‹_› ‹_›|exact n4 ‹_› ‹_›)⟩|exact ⟨(by first|assumption|exact n1 ‹_› ‹_›|exact n2 ‹_› ‹_›|exact n3 ‹_› ‹_›|exact n4 ‹_› ‹_›),(by first|assumption|exact n1 ‹_› ‹_›|exact n2 ‹_› ‹_›|exact n3 ‹_› ‹_›|exact n4 ‹_› ‹_›),(by first|assumption|exact n1 ‹_› ‹_›|exact n2 ‹_› ‹_›|exact n3 ‹_› ‹_›|exact n4 ‹_› ‹_›)⟩) ?_
          repeat first|(apply x1;apply r0;apply r0)|(apply x2;apply r0;(with_reducible repeat first|assumption|apply q0|apply gp|exact n2 ‹_› ‹_›);apply r0)|(apply xst;apply r0;(with_reducible repeat first|assumption|apply q0|apply gp|exact n2 ‹_› ‹_›);apply r0)|apply w4|apply w6|apply w7|apply w5
          refine s_index tk rfl rfl rfl rfl (by omega) hget rfl ?_
          repeat first|(apply x1;apply r0;apply r0)|(apply x3;apply r0)|(apply x9;apply r0)
          refine see_c (ks := ks) (w := w) ⟨(by with_reducible repeat first|assumption|apply gp|exact n2 ‹_› ‹_›), (by with_reducible repeat first|assumption|apply q3|exact n1 ‹_› ‹_›), (by with_reducible repeat first|assumption|apply q3|exact n1 ‹_› ‹_›), hw.nd, hw.nh⟩ (fun _ => (by with_reducible repeat first|assumption|apply gp|exact n2 ‹_› ‹_›)) nmw (fun _ => ?_) (fun h1 h2 => absurd ⟨h1, h2⟩ hs)
          repeat first|(apply x1;apply r0;apply r0)|(apply x5;apply r0)
          refine s_index tk rfl rfl rfl rfl (by omega) hget rfl ?_
          repeat first|(apply x1;apply r0;apply r0)|(apply x3;apply r0)|(apply x5;apply r0)|(apply x9;apply r0)
          refine see_nil ?_
          repeat first|(apply x1;apply r0;apply r0)|apply w4|(apply w9;apply r0)|apply wa|apply w5|apply wg
          exact ⟨w, ks, kn, _, hI', ⟨(by with_reducible repeat first|assumption|apply gp|exact n2 ‹_› ‹_›), (by with_reducible repeat first|assumption|apply q3|exact n1 ‹_› ‹_›), (by with_reducible repeat first|assumption|apply q3|exact n1 ‹_› ‹_›), hw.nd, hw.nh⟩, (by with_reducible repeat first|assumption|apply gp|exact n2 ‹_› ‹_›), (by apply ps), (by repeat first|assumption|(apply su1;assumption)|(apply su3;assumption;assumption)), (by repeat (first | exact Fr.sub_nil _ | refine Fr.sub_cons rfl ?_)), AHeap.sub_refl _⟩
        · skip
          refine s_alloc tk rfl rfl rfl (fun b22 hb22 => ?_); have hb := hb22; (try simp only [put_none_iff, prot_none_iff] at hb); (repeat obtain ⟨_, _, hb⟩ := hb)
          repeat first|(apply x9;apply r0)|apply w4|(apply y4;apply r0)
          refine rsee_c (w := w) (kn := kn) (by omega) (fun _ => ?_) (fun h1 h2 => absurd ⟨h1, h2⟩ hs)
          repeat first|(apply xst;apply r0;(apply ps);apply r0)|apply w4|(apply y1;apply r0;apply r0)|apply y0|(apply y4;apply r0)
          refine prot_done_put2 (by simp only [List.mem_cons,List.not_mem_nil,or_false,not_or]; first|exact (by first|assumption|exact n1 ‹_› ‹_›|exact n2 ‹_› ‹_›|exact n3 ‹_› ‹_›|exact n4 ‹_› ‹_›)|exact ⟨(by first|assumption|exact n1 ‹_› ‹_›|exact n2 ‹_› ‹_›|exact n3 ‹_› ‹_›|exact n4 ‹_› ‹_›),(by first|assumption|exact n1 ‹_› ‹_›|exact n2 ‹_› ‹_›|exact n3 ‹_› ‹_›|exact n4 ‹_› ‹_›)⟩|exact ⟨(by first|assumption|exact n1 ‹_› ‹_›|exact n2 ‹_› ‹_›|exact n3 ‹_› ‹_›|exact n4 ‹_› ‹_›),(by first|assumption|exact n1 ‹_› ‹_›|exact n2 ‹_› ‹_›|exact n3 ‹_› ‹_›|exact n4 ‹_› ‹_›),(by first|assumption|exact n1 ‹_› ‹_›|exact n2 ‹_› ‹_›|exact n3 ‹_› ‹_›|exact n4 ‹_› ‹_›)⟩) (by simp only [List.mem_cons,List.not_mem_nil,or_false,not_or]; first|exact (by first|assumption|exact n1 ‹_› ‹_›|exact n2 ‹_› ‹_›|exact n3 ‹_› ‹_›|exact n4 ‹_› ‹_›)|exact ⟨(by first|assumption|exact n1 ‹_› ‹_›|exact n2 ‹_› ‹_›|exact n3 ‹_› ‹_›|exact n4 ‹_› ‹_›),(by first|assumption|exact n1 ‹_› ‹_›|exact n2 ‹_› ‹_›|exact n3 ‹_› ‹_›|exact n4 ‹_› ‹_›)⟩|exact ⟨(by first|assumption|exact n1 ‹_› ‹_›|exact n2 ‹_› ‹_›|exact n3 ‹_› ‹_›|exact n4 ‹_› ‹_›),(by first|assumption|exact n1 ‹_› ‹_›|exact n2 ‹_› ‹_›|exact n3 ‹_› ‹_›|exact n4 ‹_› ‹_›),(by first|assumption|exact n1 ‹_› ‹_›|exact n2 ‹_› ‹_›|exact n3 ‹_› ‹_›|exact n4 ‹_› ‹_›)⟩) ?_
          repeat first|(apply x1;apply r0;apply r0)|(apply x2;apply r0;(with_reducible repeat first|assumption|apply q0|apply gp|exact n2 ‹_› ‹_›);apply r0)|(apply xst;apply r0;(with_reducible repeat first|assumption|apply q0|apply gp|exact n2 ‹_› ‹_›);apply r0)|apply w4|apply w6|apply w7|apply w5
          refine s_index tk rfl rfl rfl rfl (by omega) hget rfl ?_
          repeat first|(apply x1;apply r0;apply r0)|(apply x3;apply r0)|(apply x9;apply r0)
          refine see_c (ks := ks) (w := w) ⟨(by with_reducible repeat first|assumption|apply gp|exact n2 ‹_› ‹_›), (by with_reducible repeat first|assumption|apply q3|exact n1 ‹_› ‹_›), (by with_reducible repeat first|assumption|apply q3|exact n1 ‹_› ‹_›), hw.nd, hw.nh⟩ (fun _ => (by with_reducible repeat first|assumption|apply gp|exact n2 ‹_› ‹_›)) nmw (fun _ => ?_) (fun h1 h2 => absurd ⟨h1, h2⟩ hs)
          repeat first|(apply x1;apply r0;apply r0)|(apply x5;apply r0)
          refine s_index tk rfl rfl rfl rfl (by omega) hget rfl ?_
          repeat first|(apply x1;apply r0;apply r0)|(apply x3;apply r0)|(apply x5;apply r0)|(apply x9;apply r0)
          refine see_nil ?_
          repeat first|(apply x1;apply r0;apply r0)|apply w4|(apply w9;apply r0)|apply wa|apply w5|apply wg
          exact ⟨w, ks, kn, _, hI', ⟨(by with_reducible repeat first|assumption|apply gp|exact n2 ‹_› ‹_›), (by with_reducible repeat first|assumption|apply q3|exact n1 ‹_› ‹_›), (by with_reducible repeat first|assumption|apply q3|exact n1 ‹_› ‹_›), hw.nd, hw.nh⟩, (by with_reducible repeat first|assumption|apply gp|exact n2 ‹_› ‹_›), (by apply ps), (by repeat first|assumption|(apply su1;assumption)|(apply su3;assumption;assumption)), (by repeat (first | exact Fr.sub_nil _ | refine Fr.sub_cons rfl ?_)), AHeap.sub_refl _⟩
    repeat apply w6
    obtain ⟨hf1, hf2⟩ := hfa
    refine aw_plan mixed (.take 1 (.take 2 (.take 3 (.take 4 (.take 5 (.one 0 (.one 6 (.one 7 .done)))))))) (by kernel_rfl) ?_
    repeat (apply y1;apply r0;apply r0)
    refine d_index rfl rfl rfl rfl rfl rfl (by omega) hget rfl ?_
    repeat first|(apply x2;apply r0;(with_reducible repeat exact q1 ‹_›);apply r0)|(apply x9;apply r0)|apply w4|(apply y1;apply r0;apply r0)|(apply y4;apply r0)|(apply y3;apply r0;apply r0)
    by_cases hs : (w.deep && w.begun) = true
    · have hI' := hI.enter hf1 hf2
      obtain ⟨w2, hw2⟩ : ∃ w2 : Wkr, w2 = { w with left := enterL w a.names } := ⟨_, rfl⟩
      have hwd2 : Rd Y bd [.b w2.deep] := by rw [hw2]; exact hwd
      have hwh2 : Rd Y bh [.sc (.int .u8 w2.how)] := by rw [hw2]; exact hwh
      rw [← hw2] at hI'
      have hnd := hw.nd
      have hnh := hw.nh
      refine rwenter_c (w := w) (kn := kn) (names := a.names) (by have := hI.lst; omega) (by omega) (fun s h => by have := hf2 s h; omega) (by omega) (fun h => by rw [hs] at h; cases h) (fun _ => ?_)
      rw [← hw2]
      repeat first|(apply gO;first|(apply x1;apply r0;apply r0)|(apply xst;apply r0;(with_reducible assumption);apply r0)|apply w4)|(apply gP;first|apply y0|(apply y4;apply r0))|(apply gW;first|apply w6|apply w7)|apply w5
      skip
      refine s_index tk rfl rfl rfl rfl (by omega) hget rfl ?_
      repeat first|(apply x1;apply r0;apply r0)|(apply x3;apply r0)|(apply x9;apply r0)
      refine wenter_c (w := w) (names := a.names) (by have := hI.lst; omega) (by omega) (fun s h => by have := hf2 s h; omega) (by omega) ⟨(by with_reducible repeat first|assumption|apply gp), (by with_reducible repeat first|assumption|apply q3), (by with_reducible repeat first|assumption|apply q3), hw.nd, hw.nh⟩ (fun h => by rw [hs] at h; cases h) (fun _ => ?_)
      rw [← hw2]
      repeat first|(apply x1;apply r0;apply r0)|apply w4|apply w7|apply w5
      refine s_index tk rfl rfl rfl rfl (by omega) hget rfl ?_
      repeat first|(apply x1;apply r0;apply r0)|(apply x3;apply r0)|(apply x9;apply r0)
      refine wenter_nil ?_
      repeat first|apply w4|apply w5|apply wg
      exact ⟨w2, ks, kn, _, hI', ⟨(by apply ps), (by with_reducible repeat first|assumption|apply q3), (by with_reducible repeat first|assumption|apply q3), hw.nd, hw.nh⟩, (by with_reducible repeat first|assumption|apply gp), (by with_reducible repeat first|assumption|apply ps|apply gp), (by repeat first|assumption|(apply su1;assumption)), (by repeat (first | exact Fr.sub_nil _ | refine Fr.sub_cons rfl ?_)), AHeap.sub_refl _⟩
    · have hI' := hI.mono
      refine rwenter_c (w := w) (kn := kn) (names := a.names) (by have := hI.lst; omega) (by omega) (fun s h => by have := hf2 s h; omega) (by omega) (fun _ => ?_) (fun h => absurd h hs)
      repeat first|(apply gO;first|(apply x1;apply r0;apply r0)|(apply xst;apply r0;(with_reducible assumption);apply r0)|apply w4)|(apply gP;first|apply y0|(apply y4;apply r0))|(apply gW;first|apply w6|apply w7)|apply w5
      skip
      refine s_index tk rfl rfl rfl rfl (by omega) hget rfl ?_
      repeat first|(apply x1;apply r0;apply r0)|(apply x3;apply r0)|(apply x9;apply r0)
      refine wenter_c (w := w) (names := a.names) (by have := hI.lst; omega) (by omega) (fun s h => by have := hf2 s h; omega) (by omega) ⟨(by with_reducible repeat first|assumption|apply gp), (by with_reducible repeat first|assumption|apply q3), (by with_reducible repeat first|assumption|apply q3), hw.nd, hw.nh⟩ (fun _ => ?_) (fun h => absurd h hs)
      repeat first|(apply x1;apply r0;apply r0)|apply w4|apply w7|apply w5
      refine s_index tk rfl rfl rfl rfl (by omega) hget rfl ?_
      repeat first|(apply x1;apply r0;apply r0)|(apply x3;apply r0)|(apply x9;apply r0)
      refine wenter_nil ?_
      repeat first|apply w4|apply w5|apply wg
      exact ⟨w, ks, kn, _, hI', ⟨(by with_reducible repeat first|assumption|apply gp), (by with_reducible repeat first|assumption|apply q3), (by with_reducible repeat first|assumption|apply q3), hw.nd, hw.nh⟩, (by with_reducible repeat first|assumption|apply gp), (by apply ps), (by repeat first|assumption|(apply su1;assumption)), (by repeat (first | exact Fr.sub_nil _ | refine Fr.sub_cons rfl ?_)), AHeap.sub_refl _⟩
  rintro F' H' ⟨w2, ks2, kn2, Z, hI2, hw2, hm2, hr2, hsz, hF, hH⟩
  refine AW_sub ?_ hF hH
  clear hF hH hw hm hr hsy hI
  have hw := hw2
  repeat apply w6
  refine aw_prot [b12] (allc (by with_reducible repeat exact q1 ‹_›) (allc0 _)) ?_
  refine aw_plan mixed (.take 0 (.take 2 (.take 3 (.take 4 (.one 1 (.take 5 (.take 6 (.take 7 (.one 8 (.take 9 (.take 10 .done))))))))))) (by kernel_rfl) ?_
  repeat first|(apply x9;apply r0)|(apply y1;apply r0;apply r0)|(apply y4;apply r0)|(apply y2;apply r0;apply r0;(with_reducible repeat first|exact q1 ‹_›|apply pg|exact mm0);apply r0)
  refine left_c (hw.prot nb12) ?_
  repeat first|apply w4|(apply y1;apply r0;apply r0)
  rw [itms_len]
  skip
  refine d_split rfl rfl rfl (fun v1 => ?_) (fun v1 => ?_)<;>first|replace v1:=not_t v1|replace v1:=not_f v1
  · exact absurd rfl v1
  repeat first|(apply x5;apply r0)|(apply x9;apply r0)|(apply take1_ok;apply r0)|(apply y4;apply r0)
  refine left_nil ?_
  repeat first|apply w4|(apply y1;apply r0;apply r0)|apply y0|(apply take1_ok;apply r0)
  refine prot_done ?_
  repeat first|(apply gO;first|(apply x1;apply r0;apply r0)|apply w4|(apply x6;apply r0;omega))|(apply gW;first|apply w7|(apply w9;apply r0)|apply wa)|apply w5|apply wg
  exact ⟨(k + 1, w2, ks2, kn2, Z), ⟨c1', hI2, hw2, hm2, hr2, hsz⟩, by dsimp only; omega, (by repeat (first | exact Fr.sub_nil _ | refine Fr.sub_cons rfl ?_)), AHeap.sub_refl _⟩
end Abs
end Go.Proofs.Ytbldnaflffmddaa
