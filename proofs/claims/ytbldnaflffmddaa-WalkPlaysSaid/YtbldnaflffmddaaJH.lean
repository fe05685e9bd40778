import Derived.Test.YtbldnaflffmddaaJG
import Derived.Test.YtbldnaflffmddaaM1
set_option linter.unusedVariables false
namespace Go.Proofs.Ytbldnaflffmddaa
namespace Abs
theorem app_sameW {Y : AHeap} {bs : List Nat} {o o' : Own} (h1 : ∀ b ∈ bs, tokB o ≠ some b) (h2 : ∀ b ∈ bs, tokB o' ≠ some b) : ∀ b, b ∈ bs → (((Y.prot bs).free o).own o') b = Y.prot bs b := fun b hb => free_own_get (h1 b hb) (h2 b hb)
theorem app_backW {Y : AHeap} {bs : List Nat} {o o' : Own} (h1 : ∀ b ∈ bs, tokB o ≠ some b) (h2 : ∀ b ∈ bs, tokB o' ≠ some b) : (((Y.prot bs).free o).own o').back Y bs = (Y.free o).own o' := by
  funext x
  by_cases hx : x ∈ bs
  · rw [back_in hx, free_own_get (h1 x hx) (h2 x hx)]
  · rw [back_out hx]
    have hp : Y.prot bs x = Y x := prot_other hx
    cases o <;> cases o' <;> simp only [AHeap.free, AHeap.own, AHeap.put, AHeap.del] <;> (repeat' split) <;> first | rfl | exact hp
theorem apart_protW {Y : AHeap} {bs : List Nat} {o o' : Own} (h : Apart ((Y.prot bs).free o) o') : Apart (Y.free o) o' := by
  cases o' with
  | no => exact h
  | full => trivial
  | tok b e s =>
    have h' : ((Y.prot bs).free o) b = none := h
    show (Y.free o) b = none
    cases o with
    | no => exact prot_none_iff.1 h'
    | full => exact prot_none_iff.1 h'
    | tok c e2 s2 =>
      simp only [AHeap.free, AHeap.del] at h' ⊢
      split
      · rfl
      · rename_i q
        rw [if_neg q] at h'
        exact prot_none_iff.1 h'
theorem owned_protsW {Y : AHeap} {bs : List Nat} {o : Own} (h : Owned Y o) (h1 : ∀ b ∈ bs, tokB o ≠ some b) : Owned (Y.prot bs) o := owned_get h fun b hb => prot_other (fun q => h1 b q hb)
end Abs
end Go.Proofs.Ytbldnaflffmddaa

set_option linter.unusedVariables false
namespace Go.Proofs.Ytbldnaflffmddaa
namespace Abs
set_option linter.unusedSimpArgs false
set_option maxRecDepth 10000
set_option maxHeartbeats 2000000
attribute [local irreducible] AOps AW AP ACalls thenQ inBlk noGoto

/-! ### package walk: Enter -/
theorem values_c {l : List ByteArray} {o : Own} {H : AHeap} {K : AVal → AHeap → Prop} (hK : ∀ b, H b = none → K (.clo 56 [] [.ptr b 0]) (H.put b (.cells [.sl (encStrs l) o]))) : ACalls Try.prog 38 [.sl (encStrs l) o] H K := by
  refine acalls_body Try.func38 rfl rfl rfl ?_
  repeat first|apply w6|apply w7
  refine s_box rfl rfl rfl (fun b1 hb1 => ?_); have hb := hb1; (try simp only [put_none_iff, prot_none_iff] at hb); (repeat obtain ⟨_, _, hb⟩ := hb)
  repeat first|(apply x1;apply r0;apply r0)|apply w4|apply w6|apply w7|apply wd|apply w5
  exact rt1 rfl rfl (.refl _) (AHeap.sub_refl _) (hK b1 hb1)
def enItm (w : Wkr) (s : ByteArray) : Itm := ⟨joinOf w.last.path s, false, followF w.deep w.how false⟩
def enterL (w : Wkr) (names : List ByteArray) : List Itm := (sortB names).map (enItm w) ++ w.left
theorem wenter_c {bw bd bh bm : Nat} {w : Wkr} {names : List ByteArray} {o0 : Own} (hp : w.last.path.size ≤ 1000000) (hn : names.length ≤ 100000) (hs : ∀ s ∈ names, s.size ≤ 1000000) (hll : w.left.length ≤ 1000000) {H : AHeap} (hw : WkAt H bw bd bh bm w) {K : AVal → AHeap → Prop}
    (h0 : (w.deep && w.begun) = false → K (.tup []) H) (h1 : (w.deep && w.begun) = true → K (.tup []) (H.put bw (.cells (encWk { w with left := enterL w names } bd bh bm)))) : ACalls Try.prog 13 [.ptr bw 0, .sl (encStrs names) o0] H K := by
  refine acalls_body Try.func13 rfl rfl rfl ?_
  have hc0 := hw.cells
  have hcl : encWk w bd bh bm = [.b w.deep, .clo 36 [] [.ptr bd 0, .ptr bh 0], .sl (encItms w.left) .no, .s w.last.path, .b w.last.op, .b w.last.fo, .b w.begun, .mapv bm] := rfl
  rw [hcl] at hc0
  cases hd : w.deep with
  | false =>
    rw [hd] at hc0
    repeat first|(apply gO;first|(apply x1;apply r0;apply r0)|(apply x2;apply r0;(with_reducible repeat exact q1 ‹_›);apply r0)|(apply x5;apply r0)|apply w4|(apply w3;apply r0;apply r0))|(apply gW;first|apply w6|apply w7|(apply w8;apply r0)|apply wd)|apply w5|apply we
    exact rt0 rfl (AHeap.sub_refl _) (h0 (by simp_all))
  | true =>
  cases hbg : w.begun with
  | false =>
    rw [hd, hbg] at hc0
    repeat first|(apply gO;first|(apply x1;apply r0;apply r0)|(apply x2;apply r0;(with_reducible repeat exact q1 ‹_›);apply r0)|(apply x5;apply r0)|apply w4)|(apply gW;first|apply w6|apply w7|(apply w8;apply r0)|apply wd)|apply w5|apply we
    exact rt0 rfl (AHeap.sub_refl _) (h0 (by simp_all))
  | true =>
  replace h1 := h1 (by rw [hd, hbg]; rfl)
  have hdeep := hw.deep
  have hhow := hw.how
  have hsz := sortB_len names
  have hmem : ∀ s ∈ sortB names, s.size ≤ 1000000 := fun s hs2 => hs s ((sortB_perm names).mem_iff.1 hs2)
  unfold enterL at h1
  generalize hso : sortB names = so at hsz hmem h1
  have lso := strs_len so
  rw [hd, hbg] at hc0
  repeat first|(apply gO;first|(apply x1;apply r0;apply r0)|(apply x2;apply r0;(with_reducible repeat exact q1 ‹_›);apply r0)|(apply x5;apply r0)|(apply x9;apply r0)|apply w4)|(apply gW;first|apply w6|apply w7|(apply w9;apply r0)|apply wa)|apply w5
  refine values_c (fun b1 hb1 => ?_)
  have hw1 := hw.other hb1 (.cells [.sl (encStrs names) o0])
  have hb1r : Rd (H.put b1 (.cells [.sl (encStrs names) o0])) b1 [.sl (names.map fun s => [AVal.s s]) o0] := rd_new
  have hsubX : H.sub (H.put b1 (.cells [.sl (encStrs names) o0])) := AHeap.sub_put (AHeap.sub_refl _) _ hb1
  generalize H.put b1 (.cells [.sl (encStrs names) o0]) = X at hw1 hb1r hsubX ⊢
  have xc := hw1.cells
  rw [hcl, hd, hbg] at xc
  repeat (apply x9;apply r0)
  refine sorted_c hb1r (by omega) ?_
  rw [hso, show (so.map fun s => [AVal.s s]) = encStrs so from rfl]
  repeat first|(apply x1;apply r0;apply r0)|apply w4|apply wb|apply w5
  refine aw_loop (fun s : Nat × Own × AHeap => s.1 ≤ so.length ∧ OwnSt X s.2.2 s.2.1 ∧ ownEs 3 s.2.1) (fun s => [(0, .ptr bw 0), (4, .sl (encItms ((so.take s.1).map (enItm w))) s.2.1), (25, .sl (encStrs so) .no), (26, .i (encStrs so).length), (27, .i s.1)]) (fun s => s.2.2) (fun s => so.length - s.1) (0, .full, X) ⟨Nat.zero_le _, OwnSt.full X, trivial⟩ (by repeat (first | exact Fr.sub_nil _ | refine Fr.sub_cons rfl ?_)) (AHeap.sub_refl _) ?_
  rintro ⟨k, o1, Y⟩ ⟨hk, hm, he1⟩
  dsimp only at hk hm he1 ⊢
  have yc := hm.get xc
  have hbs : ∀ b ∈ [bw], tokB o1 ≠ some b := fun b hb => by
    rw [List.mem_singleton.1 hb]; exact (hm.old _ (by rw [xc]; simp)).2
  repeat first|(apply x1;apply r0;apply r0)|apply w4|apply w6|apply w7|apply w5
  refine aw_cond rfl (fun c => ?_) (fun c => ?_)<;>first|replace c:=of_decide_eq_true c|replace c:=of_decide_eq_false c
  case refine_2 =>
    have hke : k = so.length := by omega
    subst hke
    rw [List.take_length]
    repeat first|(apply x1;apply r0;apply r0)|(apply x2;apply r0;(with_reducible repeat exact q1 ‹_›);apply r0)|apply w7|apply wc|apply w5|apply wf|apply wh
    refine s_append (xs := encItms (so.map (enItm w))) (ys := encItms w.left) tk rfl rfl rfl rfl rfl (itms_uni _) (itms_uni _) (flat_itms _) hm.own he1 (by rw [itms_len, itms_len, List.length_map]; omega) (fun p1 ha he1' => ?_)
    have hm2 := hm.step ha
    have zc := hm2.get xc
    rw [show encItms (so.map (enItm w)) ++ encItms w.left = encItms (so.map (enItm w) ++ w.left) by simp [encItms]]
    repeat first|(apply x1;apply r0;apply r0)|(apply xst;apply r0;(with_reducible assumption);apply r0)|apply w4
    refine rt0n (H' := H.put bw (.cells (encWk { w with left := so.map (enItm w) ++ w.left } bd bh bm))) rfl ?_ h1
    refine AHeap.put_sub_wk (AHeap.sub_trans hsubX hm2.sub) bw (.cells ?_)
    unfold encWk encWkO
    rw [hd, hbg]
    exact wk_agg rfl
  have c' : k < so.length := by omega
  have hget : (encStrs so)[(k : Int).toNat]? = some [.s so[k]] := strs_get so k c'
  have hst : (so.take (k + 1)).map (enItm w) = (so.take k).map (enItm w) ++ [enItm w so[k]] := by
    rw [List.take_add_one, List.getElem?_eq_getElem c', Option.toList_some, List.map_append]; rfl
  have hsk := hmem so[k] (List.getElem_mem c')
  generalize so[k] = p at hget hst hsk
  have yd : Rd Y bd [.b w.deep] := hw1.deep.elim (fun e => .inl (hm.get e)) (fun e => .inr (hm.get e))
  have yh : Rd Y bh [.sc (.int .u8 w.how)] := hw1.how.elim (fun e => .inl (hm.get e)) (fun e => .inr (hm.get e))
  repeat first|apply w6|apply w7|apply wa|apply wb|apply w5
  refine s_index tk rfl rfl rfl rfl (by omega) hget rfl ?_
  repeat first|(apply x1;apply r0;apply r0)|(apply x3;apply r0)|apply w4|apply w5
  refine aw_prot [bw] (allc (by with_reducible repeat exact q1 ‹_›) (allc0 _)) ?_
  refine aw_plan mixed (.take 0 (.take 1 (.take 2 (.take 3 (.take 4 (.take 5 (.take 6 (.take 8 (.take 9 (.take 10 (.take 11 (.one 7 (.one 12 (.one 13 (.one 14 (.one 15 (.take 16 .done))))))))))))))))) (by kernel_rfl) ?_
  repeat first|(apply x9;apply r0)|(apply y1;apply r0;apply r0)|(apply y4;apply r0)|(apply y2;apply r0;apply r0;(with_reducible repeat first|exact q1 ‹_›|apply pg|exact mm0);apply r0)
  refine join_c (d := w.last.path) (s := p) (by omega) (by omega) ?_
  repeat first|apply w4|(apply y4;apply r0)
  refine s_clo rfl rfl rfl (fkall rfl) ?_
  refine follow_c (rd_prot yd) (rd_prot yh) ?_
  repeat first|(apply xbd;apply r0)|(apply xbs;apply r0)|apply w4|(apply y4;apply r0)
  refine s_append (xs := encItms ((so.take k).map (enItm w))) (ys := [encItm (enItm w p)]) tk rfl rfl rfl rfl rfl (itms_uni _) (itms_uni1 _) rfl (owned_protsW hm.own hbs) he1 (by rw [itms_len, List.length_map, List.length_take]; simp only [List.length_cons, List.length_nil]; omega) (fun p1 ha he1' => ?_)
  have ha2 := apart_protW ha
  have hbs2 : ∀ b ∈ [bw], tokB p1 ≠ some b := fun b hb => by
    have := List.mem_singleton.1 hb
    subst this
    exact apart_ne ha2 yc (hbs _ List.mem_cons_self)
  have hm2 := hm.step ha2
  rw [itms_app, ← hst]
  repeat first|apply w4|(apply y1;apply r0;apply r0)|apply y0
  refine ⟨app_sameW hbs hbs2, ?_⟩
  rw [app_backW hbs hbs2]
  repeat first|(apply x1;apply r0;apply r0)|apply w4|(apply x6;apply r0;omega)|apply w7|apply w5|apply wg
  exact ⟨(k + 1, p1, (Y.free o1).own p1), ⟨c', hm2, he1'⟩, by dsimp only; omega, (by repeat (first | exact Fr.sub_nil _ | refine Fr.sub_cons rfl ?_)), AHeap.sub_refl _⟩
end Abs
end Go.Proofs.Ytbldnaflffmddaa
