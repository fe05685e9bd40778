import Derived.Test.YtbldnaflffmddaaJL
set_option linter.unusedVariables false
namespace Go.Proofs.Ytbldnaflffmddaa
namespace Abs
set_option maxRecDepth 10000

/-! ### WalkDown: plain law -/
def sepL (d : ByteArray) : List UInt8 := if (decide (d = ⟨#[]⟩) || endOf d) = true then [] else [47]
theorem tl_join (d s : ByteArray) : tl (joinOf d s) = tl d ++ (sepL d ++ tl s) := by
  unfold joinOf sepL tl
  split
  · simp
  · simp [slashS]
theorem join_size (d s : ByteArray) : d.size ≤ (joinOf d s).size := by
  have h := congrArg List.length (tl_join d s)
  have e : ∀ b : ByteArray, (tl b).length = b.size := fun b => by show b.data.toList.length = _; rw [Array.length_toList]; rfl
  rw [List.length_append, e, e] at h
  omega
theorem join_size2 (d s : ByteArray) : (joinOf d s).size ≤ d.size + 1 + s.size := by
  have h := congrArg List.length (tl_join d s)
  have e : ∀ b : ByteArray, (tl b).length = b.size := fun b => by show b.data.toList.length = _; rw [Array.length_toList]; rfl
  have hs : (sepL d).length ≤ 1 := by unfold sepL; split <;> simp
  rw [List.length_append, List.length_append, e, e, e] at h
  omega
theorem join_ext (d s : ByteArray) : (joinOf d s).extract 0 d.size = d := by
  refine tl_inj ?_
  have h := tl_join d s
  have e : (tl d).length = d.size := by show d.data.toList.length = _; rw [Array.length_toList]; rfl
  have h2 : tl ((joinOf d s).extract 0 d.size) = (tl (joinOf d s)).take d.size := by
    simp [tl, ByteArray.data_extract]
  rw [h2, h, ← e, List.take_left]
theorem app_lt : ∀ (l a b : List UInt8), l ++ a < l ++ b → a < b
  | [], a, b, h => h
  | x :: l, a, b, h => by
    rw [List.cons_append, List.cons_append, List.cons_lt_cons_iff] at h
    rcases h with h | ⟨_, h⟩
    · exact absurd h (UInt8.lt_irrefl x)
    · exact app_lt l a b h
theorem join_mono {d s s' : ByteArray} (h : leB s s') : leB (joinOf d s) (joinOf d s') := by
  unfold leB at h ⊢
  rw [tl_join, tl_join]
  intro q
  exact h (app_lt (sepL d) _ _ (app_lt (tl d) _ _ q))
theorem notless_of {a b : ByteArray} (h : leB a b) : Op.bytesLess b.toList a.toList = false := by
  rw [bless]
  exact decide_eq_false (fun q => h q)
theorem notless_nil (b : ByteArray) : Op.bytesLess b.toList (⟨#[]⟩ : ByteArray).toList = false := by
  rw [bless]
  exact decide_eq_false (by show ¬ (tl b < []); exact List.not_lt_nil _)
def lastI (deep : Bool) (ops : List ByteArray) (i : Nat) : Itm := if i = 0 then Itm.zero else opItm deep 80 (ops.getD (i - 1) ⟨#[]⟩)
def dwk (deep : Bool) (ops : List ByteArray) (i : Nat) : Wkr := ⟨deep, 80, (ops.drop i).map (opItm deep 80), lastI deep ops i, decide (0 < i)⟩
theorem dwk_left {deep : Bool} {ops : List ByteArray} {i : Nat} (h : i < ops.length) : (dwk deep ops i).left = opItm deep 80 ops[i] :: (dwk deep ops (i + 1)).left := by
  show (ops.drop i).map _ = _ :: (ops.drop (i + 1)).map _
  rw [List.drop_eq_getElem_cons h]; rfl
theorem dwk_next {deep : Bool} {ops : List ByteArray} {i : Nat} (h : i < ops.length) : ({ dwk deep ops i with left := (dwk deep ops (i + 1)).left, last := opItm deep 80 ops[i], begun := true } : Wkr) = dwk deep ops (i + 1) := by
  have hg : ops.getD i ⟨#[]⟩ = ops[i] := by rw [List.getD_eq_getElem?_getD, List.getElem?_eq_getElem h, Option.getD_some]
  have hlast : lastI deep ops (i + 1) = opItm deep 80 ops[i] := by unfold lastI; rw [if_neg (Nat.succ_ne_zero i), Nat.add_sub_cancel, hg]
  show (⟨deep, 80, (dwk deep ops (i + 1)).left, opItm deep 80 ops[i], true⟩ : Wkr) = ⟨deep, 80, (dwk deep ops (i + 1)).left, lastI deep ops (i + 1), decide (0 < i + 1)⟩
  rw [hlast, decide_eq_true (Nat.succ_pos i)]
theorem lastI_succ (deep : Bool) {ops : List ByteArray} {i : Nat} (h : i < ops.length) : lastI deep ops (i + 1) = opItm deep 80 ops[i] := by
  unfold lastI
  rw [if_neg (Nat.succ_ne_zero i), Nat.add_sub_cancel, List.getD_eq_getElem?_getD, List.getElem?_eq_getElem h, Option.getD_some]
theorem WkAt.put2 {H : AHeap} {bw bd bh bm : Nat} {w : Wkr} (h : WkAt H bw bd bh bm w) {b : Nat} (h1 : b ≠ bw) (h2 : b ≠ bd) (h3 : b ≠ bh) (o : HObj) : WkAt (H.put b o) bw bd bh bm w :=
  ⟨by rw [put_ne (Ne.symm h1)]; exact h.cells, rd_put (Ne.symm h2) h.deep, rd_put (Ne.symm h3) h.how, h.nd, h.nh⟩
def itJ (p0 s : ByteArray) : Itm := ⟨joinOf p0 s, false, false⟩
def wk2 (deep : Bool) (ops : List ByteArray) (p0 : ByteArray) (so : List ByteArray) (kk j : Nat) : Wkr := ⟨deep, 80, (so.drop j).map (itJ p0) ++ (ops.drop (kk + 1)).map (opItm deep 80), if j = 0 then ⟨p0, true, !deep⟩ else itJ p0 (so.getD (j - 1) ⟨#[]⟩), true⟩
def prevP (p0 : ByteArray) (so : List ByteArray) (j : Nat) : ByteArray := if j = 0 then ⟨#[]⟩ else joinOf p0 (so.getD (j - 1) ⟨#[]⟩)
theorem dwk_wk2 {ops : List ByteArray} {p0 : ByteArray} {kk : Nat} (hls : lastI false ops (kk + 1) = ⟨p0, true, !false⟩) : dwk false ops (kk + 1) = wk2 false ops p0 [] kk 0 := by
  unfold dwk wk2
  rw [hls, decide_eq_true (Nat.succ_pos kk), if_pos rfl]; rfl
theorem enter_wk2 {ops : List ByteArray} {p0 : ByteArray} {kk : Nat} (hls : lastI true ops (kk + 1) = ⟨p0, true, !true⟩) (names : List ByteArray) : ({ dwk true ops (kk + 1) with left := enterL (dwk true ops (kk + 1)) names } : Wkr) = wk2 true ops p0 (sortB names) kk 0 := by
  have h1 : (dwk true ops (kk + 1)).last = ⟨p0, true, !true⟩ := hls
  have h2 : enterL (dwk true ops (kk + 1)) names = (sortB names).map (itJ p0) ++ (ops.drop (kk + 1)).map (opItm true 80) := by
    unfold enterL
    congr 1
    refine List.map_congr_left fun s _ => ?_
    unfold enItm itJ
    rw [h1]; rfl
  show (⟨true, 80, enterL (dwk true ops (kk + 1)) names, (dwk true ops (kk + 1)).last, decide (0 < kk + 1)⟩ : Wkr) = _
  unfold wk2
  rw [h2, h1, decide_eq_true (Nat.succ_pos kk), if_pos rfl]; rfl
theorem wk2_left {deep : Bool} {ops : List ByteArray} {p0 : ByteArray} {so : List ByteArray} {kk j : Nat} (h : j < so.length) : (wk2 deep ops p0 so kk j).left = itJ p0 so[j] :: (wk2 deep ops p0 so kk (j + 1)).left := by
  show (so.drop j).map _ ++ _ = _ :: ((so.drop (j + 1)).map _ ++ _)
  rw [List.drop_eq_getElem_cons h]; rfl
theorem wk2_next {deep : Bool} {ops : List ByteArray} {p0 : ByteArray} {so : List ByteArray} {kk j : Nat} (h : j < so.length) : ({ wk2 deep ops p0 so kk j with left := (wk2 deep ops p0 so kk (j + 1)).left, last := itJ p0 so[j], begun := true } : Wkr) = wk2 deep ops p0 so kk (j + 1) := by
  have hg : so.getD j ⟨#[]⟩ = so[j] := by rw [List.getD_eq_getElem?_getD, List.getElem?_eq_getElem h, Option.getD_some]
  show (⟨deep, 80, (wk2 deep ops p0 so kk (j + 1)).left, itJ p0 so[j], true⟩ : Wkr) = ⟨deep, 80, (wk2 deep ops p0 so kk (j + 1)).left, if j + 1 = 0 then _ else itJ p0 (so.getD (j + 1 - 1) ⟨#[]⟩), true⟩
  rw [if_neg (Nat.succ_ne_zero j), Nat.add_sub_cancel, hg]
theorem prevP_succ {p0 : ByteArray} {so : List ByteArray} {j : Nat} (h : j < so.length) : prevP p0 so (j + 1) = joinOf p0 so[j] := by
  unfold prevP
  rw [if_neg (Nat.succ_ne_zero j), Nat.add_sub_cancel, List.getD_eq_getElem?_getD, List.getElem?_eq_getElem h, Option.getD_some]
theorem prevP_less {p0 : ByteArray} {so : List ByteArray} (hs : so.Pairwise leB) {j : Nat} (h : j < so.length) : Op.bytesLess (joinOf p0 so[j]).toList (prevP p0 so j).toList = false := by
  cases j with
  | zero => exact notless_nil _
  | succ j =>
    rw [prevP_succ (by omega)]
    exact notless_of (join_mono ((List.pairwise_iff_getElem.1 hs) j (j + 1) (by omega) h (Nat.lt_succ_self j)))
theorem follow80 (deep : Bool) : followF deep 80 true = !deep := by cases deep <;> rfl
end Abs
end Go.Proofs.Ytbldnaflffmddaa

set_option linter.unusedVariables false
namespace Go.Proofs.Ytbldnaflffmddaa
namespace Abs
set_option linter.unusedSimpArgs false
set_option maxRecDepth 10000
set_option maxHeartbeats 2000000
attribute [local irreducible] AOps AW AP ACalls thenQ inBlk noGoto

/-! ### WalkDown -/
theorem walkDown_c {deep : Bool} {ops names : List ByteArray} (hol : ops.length ≤ 9223372036854775807) (hnl : names.length ≤ 9223372036854775807) {skip : Int} (hsk : 0 ≤ skip ∧ skip ≤ 255) {H : AHeap} {K : AVal → AHeap → Prop} (hK : K (.b true) H) :
    ACalls Try.prog 3 [.b deep, .sl (encStrs ops) .no, .sl (encStrs names) .no, .sc (.int .u8 skip)] H K := by
  refine acalls_body Try.func3 rfl rfl rfl ?_
  have lo := strs_len ops
  have ln := strs_len names
  repeat first|(apply x1;apply r0;apply r0)|(apply x9;apply r0)|apply w4|apply w6|apply w7|apply w5
  refine awake20_c ?_
  repeat first|(apply gO;first|(apply x1;apply r0;apply r0)|(apply x9;apply r0)|apply w4)|(apply gW;first|apply w6|apply w7|(apply w9;apply r0)|apply wa)|apply w5
  refine short_c hol (fun q1' hq1 => ?_)
  cases q1' with
  | false => 
    repeat first|(apply gO;first|(apply x1;apply r0;apply r0)|apply w4|(apply w3;apply r0;apply r0))|(apply gW;first|apply w6|apply w7|(apply w8;apply r0)|apply wd)|apply w5|apply we
    exact rt1 (H' := H) rfl rfl (.refl _) s0 hK
  | true =>
  repeat first|(apply x1;apply r0;apply r0)|(apply x5;apply r0)|(apply x9;apply r0)
  refine short_c hnl (fun q2' hq2 => ?_)
  cases q2' with
  | false => 
    repeat first|(apply gO;first|(apply x1;apply r0;apply r0)|apply w4|(apply w3;apply r0;apply r0))|(apply gW;first|apply w6|apply w7|(apply w8;apply r0)|apply wd)|apply w5|apply we
    exact rt1 (H' := H) rfl rfl (.refl _) s0 hK
  | true =>
  obtain ⟨ho20, ho60⟩ := hq1 rfl
  obtain ⟨hn20, hn60⟩ := hq2 rfl
  repeat first|(apply x1;apply r0;apply r0)|(apply x5;apply r0)|apply w4|apply w6|apply w7|apply w5
  refine aw_cond rfl (fun c2 => ?_) (fun c2 => ?_)<;>first|replace c2:=of_decide_eq_true c2|replace c2:=of_decide_eq_false c2
  · repeat first|(apply x1;apply r0;apply r0)|apply w4|apply w6|apply w7|apply wd|apply w5|apply we
    exact rt1 (H' := H) rfl rfl (.refl _) s0 hK
  have hop : 0 < ops.length := by omega
  repeat first|(apply x1;apply r0;apply r0)|(apply x9;apply r0)|apply w6|apply w7|apply wa|apply w5
  refine wnew_c (how := 80) (deep := deep) (l := ops) (by omega) (fun X bw bd bh bm hsx hbw hbm nmw ndm nhm hmm hw => ?_)
  replace hw : WkAt X bw bd bh bm (dwk deep ops 0) := hw
  repeat first|(apply x1;apply r0;apply r0)|apply w4|apply w6|apply w7|apply w5
  refine s_conv (r := skip) tk rfl rfl rfl rfl (wrap_id ⟨by omega, by omega⟩) ?_
  repeat (apply x1;apply r0;apply r0)
  refine s_rem rfl rfl rfl (by omega) hsk.1 ?_
  have hm1 := Int.emod_nonneg skip (show ((((encStrs ops).length : Nat) : Int)) ≠ 0 by omega)
  have hm2 := Int.emod_lt_of_pos skip (show 0 < ((((encStrs ops).length : Nat) : Int)) by omega)
  obtain ⟨kk, hkk⟩ : ∃ kk : Nat, (kk : Int) = skip % ((((encStrs ops).length : Nat) : Int)) := ⟨(skip % ((((encStrs ops).length : Nat) : Int))).toNat, Int.toNat_of_nonneg hm1⟩
  rw [← hkk] at hm2 ⊢
  have hkl : kk < ops.length := by omega
  repeat first|(apply x1;apply r0;apply r0)|(apply xbd;apply r0)|apply w4|(apply x6;apply r0;omega)|apply w6|apply w7|apply w5
  refine s_alloc tk rfl rfl rfl (fun b13 hb13 => ?_); have hb := hb13; (try simp only [put_none_iff, prot_none_iff] at hb); (repeat obtain ⟨_, _, hb⟩ := hb)
  repeat first|(apply x1;apply r0;apply r0)|(apply xst;apply r0;(apply ps);apply r0)|apply w4|apply w6|apply w7|apply wb|apply w5
  have hwd0 := hw.deep
  have hwh0 := hw.how
  replace hw := hw.other hb13 (.cells (encItm Itm.zero))
  have n13w : b13 ≠ bw := fun e => by have := hw.cells; subst e; rw [put_same] at this; cases this
  have f13 : H b13 = none := sub_none hsx hb13
  have n13d : b13 ≠ bd := Ne.symm (rd_ne hwd0 hb13)
  have n13h : b13 ≠ bh := Ne.symm (rd_ne hwh0 hb13)
  have hlast0 : (X.put b13 (.cells (encItm Itm.zero))) b13 = some (.cells (encItm (lastI deep ops 0))) := put_same _ _ _
  have hs0 : H.sub (X.put b13 (.cells (encItm Itm.zero))) := AHeap.sub_put hsx _ f13
  rw [put_put]
  refine aw_loop (fun s : Nat × AHeap => s.1 ≤ kk + 1 ∧ WkAt s.2 bw bd bh bm (dwk deep ops s.1) ∧ s.2 b13 = some (.cells (encItm (lastI deep ops s.1))) ∧ H.sub s.2) (fun s => [(0, .b deep), (1, .sl (encStrs ops) .no), (2, .sl (encStrs names) .no), (11, .ptr bw 0), (12, .i ((kk : Int) + 1)), (13, .ptr b13 0), (14, .i s.1)]) (fun s => s.2) (fun s => kk + 1 - s.1) (0, X.put b13 (.cells (encItm Itm.zero))) ⟨Nat.zero_le _, hw, hlast0, hs0⟩ (by repeat (first | exact Fr.sub_nil _ | refine Fr.sub_cons rfl ?_)) (AHeap.sub_refl _) ?_
  clear hw hlast0 hs0 hwd0 hwh0
  rintro ⟨i, Y⟩ ⟨hi, hw, h13, hsy⟩
  dsimp only at hi hw h13 hsy ⊢
  repeat first|(apply x1;apply r0;apply r0)|apply w4|apply w6|apply w7|apply w5
  refine aw_cond rfl (fun c3 => ?_) (fun c3 => ?_)<;>first|replace c3:=of_decide_eq_true c3|replace c3:=of_decide_eq_false c3
  · have hik : i < kk + 1 := by omega
    have hio : i < ops.length := by omega
    have hget := strs_get ops i hio
    repeat first|(apply x1;apply r0;apply r0)|(apply x9;apply r0)|apply w6|apply w7|apply wa|apply wb|apply w5
    refine wnext_c hw (fun h => by rw [dwk_left hio] at h; cases h) (fun i' l' h => ?_)
    rw [dwk_left hio] at h
    cases h
    rw [dwk_next hio]
    have hls := lastI_succ deep hio
    replace hw := hw.put (w' := dwk deep ops (i + 1)) rfl rfl
    have h13' : (Y.put bw (.cells (encWk (dwk deep ops (i + 1)) bd bh bm))) b13 = some (.cells (encItm (lastI deep ops i))) := by rw [put_ne n13w]; exact h13
    have hsy2 : H.sub (Y.put bw (.cells (encWk (dwk deep ops (i + 1)) bd bh bm))) := AHeap.sub_put hsy _ hbw
    generalize Y.put bw _ = Z at hw h13' hsy2 ⊢
    have hop' : opItm deep 80 ops[i] = ⟨ops[i], true, followF deep 80 true⟩ := rfl
    rw [hop'] at hls ⊢
    generalize ops[i] = p at hget hls ⊢
    rw [follow80] at hls ⊢
    repeat (apply x1;apply r0;apply r0)
    refine s_alloc tk rfl rfl rfl (fun b15 hb15 => ?_); have hb := hb15; (try simp only [put_none_iff, prot_none_iff] at hb); (repeat obtain ⟨_, _, hb⟩ := hb)
    (apply xst;apply r0;(apply ps);apply r0)
    rw [put_put]
    have n1513 : b15 ≠ b13 := Ne.symm (get_ne h13' hb15)
    repeat first|(apply x1;apply r0;apply r0)|apply w4|apply w6|apply w5
    refine aw_prot [b15] (allc (by apply q0) (allc0 _)) ?_
    refine aw_plan mixed (.take 0 (.take 1 (.take 2 (.take 3 (.take 4 (.take 5 (.take 6 (.take 7 (.take 8 (.take 9 (.take 10 (.take 11 (.take 12 (.take 13 (.take 14 (.take 15 (.take 16 (.take 17 (.take 18 (.take 19 (.take 20 (.take 21 .done)))))))))))))))))))))) (by kernel_rfl) ?_
    repeat first|(apply y1;apply r0;apply r0)|(apply take1_ok;apply r0)|(apply y2;apply r0;apply r0;(with_reducible repeat first|apply q0|apply pg|exact mm0);apply r0)
    refine d_index rfl rfl rfl rfl rfl rfl (by omega) hget rfl ?_
    repeat first|(apply y1;apply r0;apply r0)|(apply take1_ok;apply r0)|(apply y3;apply r0;apply r0)
    refine d_split rfl rfl rfl (fun e1 => ?_) (fun e1 => ?_)<;>first|replace e1:=not_t e1|replace e1:=not_f e1
    · exact absurd rfl e1
    repeat first|(apply y1;apply r0;apply r0)|apply y0|(apply take1_ok;apply r0)|(apply y2;apply r0;apply r0;(with_reducible repeat first|apply q0|apply pg|exact mm0);apply r0)
    refine prot_done ?_
    repeat apply w5
    refine aw_cond rfl (fun e2 => ?_) (fun e2 => ?_)<;>first|replace e2:=of_decide_eq_true e2|replace e2:=of_decide_eq_false e2
    · exact absurd e2 (by show ¬ ((!deep) = deep); cases deep <;> decide)
    repeat first|(apply gO;first|(apply x1;apply r0;apply r0)|(apply x2;apply r0;(with_reducible repeat first|assumption|apply q0|apply gp|exact n2 ‹_› ‹_›);apply r0)|(apply xst;apply r0;(with_reducible repeat first|assumption|apply q0|apply gp|exact n2 ‹_› ‹_›);apply r0)|apply w4|(apply x6;apply r0;omega))|(apply gW;first|apply w7|apply wa)|apply w5|apply wg
    refine ⟨(i + 1, (Z.put b15 (.cells (encItm ⟨p, true, !deep⟩))).put b13 (.cells (encItm ⟨p, true, !deep⟩))), ⟨hik, (hw.other hb15 _).put2 n13w n13d n13h _, by dsimp only; rw [hls]; exact put_same _ _ _, AHeap.sub_put (AHeap.sub_put hsy2 _ (sub_none hsy2 hb15)) _ f13⟩, by dsimp only; omega, (by repeat (first | exact Fr.sub_nil _ | refine Fr.sub_cons rfl ?_)), AHeap.sub_refl _⟩
  have hik : i = kk + 1 := by omega
  subst hik
  have hls := lastI_succ deep hkl
  have hp60 : ops[kk].size ≤ 60 := ho60 _ (List.getElem_mem hkl)
  have hop' : opItm deep 80 ops[kk] = ⟨ops[kk], true, followF deep 80 true⟩ := rfl
  rw [hop', follow80] at hls
  rw [hls] at h13
  have hdw : (dwk deep ops (kk + 1)).last = ⟨ops[kk], true, !deep⟩ := hls
  generalize ops[kk] = p0 at hp60 hls h13 hdw
  have hsb := sortB_len names
  have hsp := sortB_sorted names
  have hmem : ∀ s ∈ sortB names, s.size ≤ 60 := fun s hs => hn60 s ((sortB_perm names).mem_iff.1 hs)
  repeat first|(apply gO;first|(apply x1;apply r0;apply r0)|(apply x9;apply r0))|(apply gW;first|apply w6|apply w7|apply wc)|apply w5|apply wf|apply wh
  refine wenter_c (names := names) (by rw [hdw]; show p0.size ≤ _; omega) (by omega) (fun s hs => by have := hn60 s hs; omega) (by show ((ops.drop (kk + 1)).map _).length ≤ _; rw [List.length_map, List.length_drop]; omega) hw (fun hdb => ?_) (fun hdb => ?_)
  · have hd : deep = false := by
      have h1 : (deep && decide (0 < kk + 1)) = false := hdb
      rw [decide_eq_true (Nat.succ_pos kk), Bool.and_true] at h1; exact h1
    subst hd
    replace hw : WkAt Y bw bd bh bm (wk2 false ops p0 [] kk 0) := by rw [← dwk_wk2 hls]; exact hw
    repeat first|(apply gO;first|(apply x1;apply r0;apply r0)|apply w4)|(apply gW;first|apply w6|apply w7|(apply w9;apply r0)|apply wa|apply wb)|apply w5
    refine aw_loop (fun _ : Unit => True) (fun _ => [(1, .sl (encStrs ops) .no), (11, .ptr bw 0), (12, .i ((kk : Int) + 1)), (17, .i 0), (19, .i 0)]) (fun _ => Y) (fun _ => 0) () trivial (by repeat (first | exact Fr.sub_nil _ | refine Fr.sub_cons rfl ?_)) (AHeap.sub_refl _) ?_
    rintro _ _
    have hwl : (wk2 false ops p0 [] kk 0).left = (ops.drop (kk + 1)).map (opItm false 80) := rfl
    generalize wk2 _ _ _ _ _ _ = wl at hw hwl
    repeat first|(apply gO;first|(apply x1;apply r0;apply r0)|apply w4)|(apply gW;first|apply w6|apply w7|(apply w9;apply r0)|apply wb|apply wc)|apply w5|apply wf|apply wh
    refine aw_loop (fun s : Nat × Wkr × AHeap => s.1 ≤ ops.length ∧ WkAt s.2.2 bw bd bh bm s.2.1 ∧ s.2.1.left = (ops.drop s.1).map (opItm false 80) ∧ H.sub s.2.2) (fun s => [(1, .sl (encStrs ops) .no), (11, .ptr bw 0), (23, .i s.1)]) (fun s => s.2.2) (fun s => ops.length - s.1) (kk + 1, wl, Y) ⟨by omega, hw, hwl, hsy⟩ (by repeat (first | exact Fr.sub_nil _ | refine Fr.sub_cons rfl ?_)) (AHeap.sub_refl _) ?_
    clear hw hwl hsy h13
    rintro ⟨i, w9, V⟩ ⟨hi9, hw, hwl, hsy⟩
    dsimp only at hi9 hw hwl hsy ⊢
    repeat first|(apply x1;apply r0;apply r0)|apply w4|apply w6|apply w7|apply w5
    refine aw_cond rfl (fun c7 => ?_) (fun c7 => ?_)<;>first|replace c7:=of_decide_eq_true c7|replace c7:=of_decide_eq_false c7
    · have hio : i < ops.length := by omega
      have hget := strs_get ops i hio
      rw [List.drop_eq_getElem_cons hio, List.map_cons] at hwl
      repeat first|(apply x1;apply r0;apply r0)|(apply x9;apply r0)|apply w6|apply w7|apply wa|apply wb|apply w5
      refine wnext_c hw (fun h => by rw [hwl] at h; cases h) (fun i' l' h => ?_)
      rw [hwl] at h
      cases h
      replace hw := hw.put (w' := { w9 with left := (ops.drop (i + 1)).map (opItm false 80), last := opItm false 80 ops[i], begun := true }) rfl rfl
      have hsy2 : H.sub (V.put bw (.cells (encWk { w9 with left := (ops.drop (i + 1)).map (opItm false 80), last := opItm false 80 ops[i], begun := true } bd bh bm))) := AHeap.sub_put hsy _ hbw
      generalize V.put bw _ = Z3 at hw hsy2 ⊢
      rw [show opItm false 80 ops[i] = ⟨ops[i], true, followF false 80 true⟩ from rfl] at hw ⊢
      generalize ops[i] = px at hw hget ⊢
      repeat (apply x1;apply r0;apply r0)
      refine s_alloc tk rfl rfl rfl (fun b24 hb24 => ?_); have hb := hb24; (try simp only [put_none_iff, prot_none_iff] at hb); (repeat obtain ⟨_, _, hb⟩ := hb)
      (apply xst;apply r0;(apply ps);apply r0)
      rw [put_put]
      repeat first|(apply x1;apply r0;apply r0)|apply w4|apply w6|apply w5
      refine aw_prot [b24] (allc (by apply q0) (allc0 _)) ?_
      refine aw_plan mixed (.take 0 (.take 1 (.take 2 (.take 3 (.take 4 (.take 5 (.take 6 (.take 7 (.take 8 (.take 9 (.take 10 .done))))))))))) (by kernel_rfl) ?_
      repeat first|(apply y1;apply r0;apply r0)|(apply take1_ok;apply r0)|(apply y2;apply r0;apply r0;(with_reducible repeat first|apply q0|apply pg|exact mm0);apply r0)
      refine d_index rfl rfl rfl rfl rfl rfl (by omega) hget rfl ?_
      repeat first|(apply y1;apply r0;apply r0)|apply y0|(apply take1_ok;apply r0)|(apply y3;apply r0;apply r0)
      refine prot_done ?_
      repeat apply w5
      refine aw_cond rfl (fun u3 => ?_) (fun u3 => ?_)<;>first|replace u3:=not_t u3|replace u3:=not_f u3
      · exact absurd rfl u3
      repeat first|(apply x1;apply r0;apply r0)|apply w4|(apply x6;apply r0;omega)|apply w7|apply wa|apply w5|apply wg
      refine ⟨(i + 1, _, Z3.put b24 (.cells (encItm ⟨px, true, followF false 80 true⟩))), ⟨hio, hw.other hb24 _, rfl, AHeap.sub_put hsy2 _ (sub_none hsy2 hb24)⟩, by dsimp only; omega, (by repeat (first | exact Fr.sub_nil _ | refine Fr.sub_cons rfl ?_)), AHeap.sub_refl _⟩
    have hie : i = ops.length := by omega
    subst hie
    rw [List.drop_length] at hwl
    repeat first|(apply gO;first|(apply x1;apply r0;apply r0)|(apply x9;apply r0))|(apply gW;first|apply w6|apply w7|apply wc)|apply w5|apply wf|apply wh
    refine left_c hw ?_
    rw [hwl]
    repeat first|(apply x1;apply r0;apply r0)|apply w4|apply wd|apply w5
    exact rt1 (H' := H) rfl rfl (.refl _) (by repeat assumption) hK
  · have hd : deep = true := by
      have h1 : (deep && decide (0 < kk + 1)) = true := hdb
      rw [decide_eq_true (Nat.succ_pos kk), Bool.and_true] at h1; exact h1
    subst hd
    rw [enter_wk2 hls names]
    replace hw := hw.put (w' := wk2 true ops p0 (sortB names) kk 0) rfl rfl
    have h13' : (Y.put bw (.cells (encWk (wk2 true ops p0 (sortB names) kk 0) bd bh bm))) b13 = some (.cells (encItm ⟨p0, true, !true⟩)) := by rw [put_ne n13w]; exact h13
    have hsy2 : H.sub (Y.put bw (.cells (encWk (wk2 true ops p0 (sortB names) kk 0) bd bh bm))) := AHeap.sub_put hsy _ hbw
    generalize Y.put bw _ = Z at hw h13' hsy2 ⊢
    clear h13 hsy
    have h13 := h13'
    have hsy := hsy2
    generalize sortB names = so at hw hsb hsp hmem
    have hn9 : ((((encStrs names).length : Nat) : Int) : Int) = ((so).length : Int) := by (first | rfl | omega)
    repeat first|(apply x1;apply r0;apply r0)|apply w4|apply w6|apply w7|(apply w8;apply r0)|apply wb|apply w5
    refine aw_loop (fun s : Nat × AHeap => s.1 ≤ (so).length ∧ WkAt s.2 bw bd bh bm (wk2 true ops p0 so kk s.1) ∧ s.2 b13 = some (.cells (encItm ⟨p0, true, !true⟩)) ∧ H.sub s.2) (fun s => [(1, .sl (encStrs ops) .no), (11, .ptr bw 0), (12, .i ((kk : Int) + 1)), (13, .ptr b13 0), (17, .i (((encStrs names).length : Nat) : Int)), (18, .s (prevP p0 so s.1)), (19, .i s.1)]) (fun s => s.2) (fun s => (so).length - s.1) (0, Z) ⟨Nat.zero_le _, hw, h13, hsy⟩ (by repeat (first | exact Fr.sub_nil _ | refine Fr.sub_cons rfl ?_)) (AHeap.sub_refl _) ?_
    clear hw h13 hsy
    rintro ⟨j, W⟩ ⟨hj, hw, h13, hsy⟩
    dsimp only at hj hw h13 hsy ⊢
    repeat first|(apply x1;apply r0;apply r0)|apply w4|apply w6|apply w7|apply w5
    refine aw_cond rfl (fun c5 => ?_) (fun c5 => ?_)<;>first|replace c5:=of_decide_eq_true c5|replace c5:=of_decide_eq_false c5
    · have hjs : j < (so).length := by omega
      have hpl := prevP_less (p0 := p0) hsp hjs
      have hps := prevP_succ (p0 := p0) hjs
      have hnx := wk2_next (deep := true) (ops := ops) (p0 := p0) (kk := kk) hjs
      have hlf := wk2_left (deep := true) (ops := ops) (p0 := p0) (kk := kk) hjs
      have hs6 := hmem _ (List.getElem_mem hjs)
      repeat first|(apply x1;apply r0;apply r0)|(apply x9;apply r0)|apply w6|apply w7|apply wa|apply wb|apply w5
      refine wnext_c hw (fun h => by rw [hlf] at h; cases h) (fun i' l' h => ?_)
      rw [hlf] at h
      cases h
      rw [hnx]
      replace hw := hw.put (w' := wk2 true ops p0 so kk (j + 1)) rfl rfl
      have h13' : (W.put bw (.cells (encWk (wk2 true ops p0 so kk (j + 1)) bd bh bm))) b13 = some (.cells (encItm ⟨p0, true, !true⟩)) := by rw [put_ne n13w]; exact h13
      have hsy2 : H.sub (W.put bw (.cells (encWk (wk2 true ops p0 so kk (j + 1)) bd bh bm))) := AHeap.sub_put hsy _ hbw
      generalize W.put bw _ = Z2 at hw h13' hsy2 ⊢
      rw [show itJ p0 (so)[j] = ⟨joinOf p0 (so)[j], false, false⟩ from rfl]
      generalize (so)[j] = sx at hpl hps hs6 ⊢
      have hz1 := join_size p0 sx
      have hz2 := join_size2 p0 sx
      have hz3 := join_ext p0 sx
      generalize prevP p0 so j = pv at hpl ⊢
      generalize joinOf p0 sx = jx at hpl hps hz1 hz2 hz3 ⊢
      repeat (apply x1;apply r0;apply r0)
      refine s_alloc tk rfl rfl rfl (fun b20 hb20 => ?_); have hb := hb20; (try simp only [put_none_iff, prot_none_iff] at hb); (repeat obtain ⟨_, _, hb⟩ := hb)
      (apply xst;apply r0;(apply ps);apply r0)
      rw [put_put]
      have n2013 : b20 ≠ b13 := Ne.symm (get_ne h13' hb20)
      repeat first|(apply x1;apply r0;apply r0)|(apply x2;apply r0;(with_reducible repeat first|apply q0|exact q1 ‹_›|apply q3|exact n2 ‹_› ‹_›);apply r0)|apply w4|apply w6|apply w7|apply w5
      refine s_sub rfl rfl rfl (by show -9223372036854775808 ≤ (jx.size : Int) - (p0.size : Int) ∧ (jx.size : Int) - (p0.size : Int) ≤ 9223372036854775807; omega) ?_
      repeat first|(apply x1;apply r0;apply r0)|apply w4|apply w6|apply w5
      refine aw_prot [b20, b13] (allc (by apply q0) (allc (by with_reducible repeat first|exact q1 ‹_›|apply q3|exact n2 ‹_› ‹_›) (allc0 _))) ?_
      refine aw_plan mixed (.take 0 (.take 1 (.take 2 (.take 3 (.take 4 (.take 5 (.take 6 (.take 7 (.take 8 (.take 9 (.take 10 (.take 11 (.take 12 (.take 13 (.take 14 (.take 15 (.take 16 (.take 17 (.take 18 (.take 19 (.take 20 (.take 21 (.take 22 (.take 23 (.take 24 (.take 25 (.take 26 (.take 27 (.take 28 (.take 29 (.take 30 .done))))))))))))))))))))))))))))))) (by kernel_rfl) ?_
      repeat first|(apply y1;apply r0;apply r0)|(apply take1_ok;apply r0)|(apply y2;apply r0;apply r0;(with_reducible repeat first|apply q0|apply pg|exact mm0);apply r0)
      refine d_split rfl rfl rfl (fun u1 => ?_) (fun u1 => ?_)<;>first|replace u1:=of_decide_eq_true u1|replace u1:=of_decide_eq_false u1
      · exact absurd u1 (by show ¬ ((jx.size : Int) - (p0.size : Int) < 0); omega)
      repeat first|(apply take1_ok;apply r0)|(apply y2;apply r0;apply r0;(with_reducible repeat first|apply q0|exact q1 ‹_›|apply pg|apply q3|exact n2 ‹_› ‹_›|exact mm0|apply mm1);apply r0)
      refine d_stab rfl rfl rfl (pures_slice_str (s := jx) (l := 0) (h := (p0.size : Int)) tk rfl rfl rfl rfl (by decide) (by omega) (by omega)).stab ?_
      rw [show jx.extract (0 : Int).toNat (p0.size : Int).toNat = p0 by rw [Int.toNat_natCast]; exact hz3]
      repeat first|(apply y1;apply r0;apply r0)|(apply take1_ok;apply r0)|(apply y2;apply r0;apply r0;(with_reducible repeat first|exact q1 ‹_›|apply pg|apply q3|exact n2 ‹_› ‹_›|exact mm0|apply mm1);apply r0)
      refine d_split rfl rfl rfl (fun u2 => ?_) (fun u2 => ?_)<;>first|replace u2:=not_t u2|replace u2:=not_f u2
      · exact absurd rfl u2
      repeat first|(apply y1;apply r0;apply r0)|apply y0|(apply take1_ok;apply r0)|(apply y2;apply r0;apply r0;(with_reducible repeat first|apply q0|apply pg|exact mm0);apply r0)
      refine prot_done ?_
      repeat apply w5
      rw [hpl]
      repeat first|(apply gO;first|(apply x1;apply r0;apply r0)|(apply x2;apply r0;(apply q0);apply r0)|apply w4|(apply x6;apply r0;omega))|(apply gW;first|apply w7|(apply w9;apply r0)|apply wa)|apply w5|apply wg
      refine ⟨(j + 1, Z2.put b20 (.cells (encItm ⟨jx, false, false⟩))), ⟨hjs, hw.other hb20 _, by dsimp only; rw [put_ne (Ne.symm n2013)]; exact h13', AHeap.sub_put hsy2 _ (sub_none hsy2 hb20)⟩, by dsimp only; omega, ?_, AHeap.sub_refl _⟩
      dsimp only
      rw [hps]
      exact (by repeat (first | exact Fr.sub_nil _ | refine Fr.sub_cons rfl ?_))
    have hje : j = (so).length := by omega
    subst hje
    have hwl : (wk2 true ops p0 so kk (so).length).left = (ops.drop (kk + 1)).map (opItm true 80) := by
      show ((so).drop (so).length).map _ ++ _ = _
      rw [List.drop_length]; rfl
    generalize wk2 _ _ _ _ _ _ = wl at hw hwl
    repeat first|(apply gO;first|(apply x1;apply r0;apply r0)|apply w4)|(apply gW;first|apply w6|apply w7|apply wb|apply wc)|apply w5|apply wf|apply wh
    refine aw_loop (fun s : Nat × Wkr × AHeap => s.1 ≤ ops.length ∧ WkAt s.2.2 bw bd bh bm s.2.1 ∧ s.2.1.left = (ops.drop s.1).map (opItm true 80) ∧ H.sub s.2.2) (fun s => [(1, .sl (encStrs ops) .no), (11, .ptr bw 0), (23, .i s.1)]) (fun s => s.2.2) (fun s => ops.length - s.1) (kk + 1, wl, W) ⟨by omega, hw, hwl, hsy⟩ (by repeat (first | exact Fr.sub_nil _ | refine Fr.sub_cons rfl ?_)) (AHeap.sub_refl _) ?_
    clear hw hwl hsy h13
    rintro ⟨i, w9, V⟩ ⟨hi9, hw, hwl, hsy⟩
    dsimp only at hi9 hw hwl hsy ⊢
    repeat first|(apply x1;apply r0;apply r0)|apply w4|apply w6|apply w7|apply w5
    refine aw_cond rfl (fun c7 => ?_) (fun c7 => ?_)<;>first|replace c7:=of_decide_eq_true c7|replace c7:=of_decide_eq_false c7
    · have hio : i < ops.length := by omega
      have hget := strs_get ops i hio
      rw [List.drop_eq_getElem_cons hio, List.map_cons] at hwl
      repeat first|(apply x1;apply r0;apply r0)|(apply x9;apply r0)|apply w6|apply w7|apply wa|apply wb|apply w5
      refine wnext_c hw (fun h => by rw [hwl] at h; cases h) (fun i' l' h => ?_)
      rw [hwl] at h
      cases h
      replace hw := hw.put (w' := { w9 with left := (ops.drop (i + 1)).map (opItm true 80), last := opItm true 80 ops[i], begun := true }) rfl rfl
      have hsy2 : H.sub (V.put bw (.cells (encWk { w9 with left := (ops.drop (i + 1)).map (opItm true 80), last := opItm true 80 ops[i], begun := true } bd bh bm))) := AHeap.sub_put hsy _ hbw
      generalize V.put bw _ = Z3 at hw hsy2 ⊢
      rw [show opItm true 80 ops[i] = ⟨ops[i], true, followF true 80 true⟩ from rfl] at hw ⊢
      generalize ops[i] = px at hw hget ⊢
      repeat (apply x1;apply r0;apply r0)
      refine s_alloc tk rfl rfl rfl (fun b24 hb24 => ?_); have hb := hb24; (try simp only [put_none_iff, prot_none_iff] at hb); (repeat obtain ⟨_, _, hb⟩ := hb)
      (apply xst;apply r0;(apply ps);apply r0)
      rw [put_put]
      repeat first|(apply x1;apply r0;apply r0)|apply w4|apply w6|apply w5
      refine aw_prot [b24] (allc (by apply q0) (allc0 _)) ?_
      refine aw_plan mixed (.take 0 (.take 1 (.take 2 (.take 3 (.take 4 (.take 5 (.take 6 (.take 7 (.take 8 (.take 9 (.take 10 .done))))))))))) (by kernel_rfl) ?_
      repeat first|(apply y1;apply r0;apply r0)|(apply take1_ok;apply r0)|(apply y2;apply r0;apply r0;(with_reducible repeat first|apply q0|apply pg|exact mm0);apply r0)
      refine d_index rfl rfl rfl rfl rfl rfl (by omega) hget rfl ?_
      repeat first|(apply y1;apply r0;apply r0)|apply y0|(apply take1_ok;apply r0)|(apply y3;apply r0;apply r0)
      refine prot_done ?_
      repeat apply w5
      refine aw_cond rfl (fun u3 => ?_) (fun u3 => ?_)<;>first|replace u3:=not_t u3|replace u3:=not_f u3
      · exact absurd rfl u3
      repeat first|(apply x1;apply r0;apply r0)|apply w4|(apply x6;apply r0;omega)|apply w7|apply wa|apply w5|apply wg
      refine ⟨(i + 1, _, Z3.put b24 (.cells (encItm ⟨px, true, followF true 80 true⟩))), ⟨hio, hw.other hb24 _, rfl, AHeap.sub_put hsy2 _ (sub_none hsy2 hb24)⟩, by dsimp only; omega, (by repeat (first | exact Fr.sub_nil _ | refine Fr.sub_cons rfl ?_)), AHeap.sub_refl _⟩
    have hie : i = ops.length := by omega
    subst hie
    rw [List.drop_length] at hwl
    repeat first|(apply gO;first|(apply x1;apply r0;apply r0)|(apply x9;apply r0))|(apply gW;first|apply w6|apply w7|apply wc)|apply w5|apply wf|apply wh
    refine left_c hw ?_
    rw [hwl]
    repeat first|(apply x1;apply r0;apply r0)|apply w4|apply wd|apply w5
    exact rt1 (H' := H) rfl rfl (.refl _) (by repeat assumption) hK
end Abs
end Go.Proofs.Ytbldnaflffmddaa
