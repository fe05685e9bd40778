import Derived.Test.YtbldnaflffmddaaJQ
set_option linter.unusedVariables false
namespace Go.Proofs.Ytbldnaflffmddaa
namespace Abs
set_option linter.unusedSimpArgs false
set_option maxRecDepth 10000
set_option maxHeartbeats 2000000
attribute [local irreducible] AOps AW AP ACalls thenQ inBlk noGoto

/-! ### WalkOrder -/
def okNm (l : List ByteArray) (j : Nat) : Prop := (∀ h : j < l.length, l[j].size = 1 ∧ ¬ l[j] = ⟨#[47]⟩) ∧ (∀ (h : j < l.length) (h0 : 0 < j), Op.bytesLess (l[j - 1]).toList l[j].toList = true)
theorem okNm_step {l : List ByteArray} {k : Nat} (h : ∀ j, j < k → okNm l j) (hk : okNm l k) : ∀ j, j < k + 1 → okNm l j := fun j hj => by
  rcases Nat.lt_or_ge j k with h1 | h1
  · exact h j h1
  · have : j = k := by omega
    subst this; exact hk
theorem walkOrder_c {dp : Int} {names : List ByteArray} (hnl : names.length ≤ 9223372036854775807) (hdp : 0 ≤ dp ∧ dp ≤ 255) {H : AHeap} {K : AVal → AHeap → Prop} (hK : K (.b true) H) :
    ACalls Try.prog 4 [.sc (.int .u8 dp), .sl (encStrs names) .no] H K := by
  refine acalls_body Try.func4 rfl rfl rfl ?_
  have ln := strs_len names
  repeat first|(apply x1;apply r0;apply r0)|(apply x9;apply r0)|apply w4|apply w6|apply w7|apply w5
  refine awake20_c ?_
  repeat first|(apply x1;apply r0;apply r0)|apply w4|apply w6|apply w7|(apply w9;apply r0)|apply wa|apply w5
  refine s_rem rfl rfl rfl (by decide) hdp.1 ?_
  obtain ⟨d, hd⟩ : ∃ d : Nat, (d : Int) = dp % 4 := ⟨(dp % 4).toNat, Int.toNat_of_nonneg (Int.emod_nonneg _ (by decide))⟩
  rw [← hd]
  have hd4 : d < 4 := by have := Int.emod_lt_of_pos dp (show (0 : Int) < 4 by decide); omega
  skip
  refine s_conv (r := d) tk rfl rfl rfl rfl (wrap_id ⟨by omega, by omega⟩) ?_
  repeat first|(apply x1;apply r0;apply r0)|apply w4|apply w6|apply w7|apply w5
  refine aw_cond rfl (fun c1 => ?_) (fun c1 => ?_)<;>first|replace c1:=of_decide_eq_true c1|replace c1:=of_decide_eq_false c1
  · repeat first|(apply x1;apply r0;apply r0)|apply w4|apply w6|apply w7|apply wd|apply w5|apply we
    exact rt1 (H' := H) rfl rfl (.refl _) s0 hK
  have hn4 : names.length ≤ 4 := by omega
  repeat first|(apply x1;apply r0;apply r0)|apply w4|apply w6|apply w7|apply wa|apply wb|apply w5
  refine aw_loop (fun k : Nat => k ≤ names.length ∧ ∀ j, j < k → okNm names j) (fun k => [(1, .sl (encStrs names) .no), (6, .i d), (7, .i k)]) (fun _ => H) (fun k => names.length - k) 0 ⟨Nat.zero_le _, fun j h => absurd h (Nat.not_lt_zero _)⟩ (by repeat (first | exact Fr.sub_nil _ | refine Fr.sub_cons rfl ?_)) (AHeap.sub_refl _) ?_
  rintro k ⟨hk, hall⟩
  repeat first|(apply x1;apply r0;apply r0)|apply w4|apply w6|apply w7|apply w5
  refine aw_cond rfl (fun c2 => ?_) (fun c2 => ?_)<;>first|replace c2:=of_decide_eq_true c2|replace c2:=of_decide_eq_false c2
  case refine_2 =>
    have hke : k = names.length := by omega
    subst hke
    obtain ⟨cs, hcs, hrise, hns⟩ := names_of names (fun j h => (hall j h).1 h) (fun j h => (hall (j + 1) h).2 h (Nat.succ_pos j))
    have hlen : names.length = cs.length := by rw [hcs, List.length_map]
    have hsort : sortB names = names := by rw [hcs]; exact names_sorted cs hrise
    clear hall c2 hk c1
    have hsz1 : ∀ s ∈ names, s.size ≤ 1000000 := fun s hs => by
      rw [hcs] at hs
      obtain ⟨c, _, rfl⟩ := List.mem_map.1 hs
      exact Nat.le_of_ble_eq_true rfl
    repeat first|(apply gO;first|(apply xbs;apply r0)|(apply x9;apply r0))|(apply gW;first|apply w6|apply w7|apply wc)|apply w5|apply wf|apply wh
    refine wnew_c (how := 80) (deep := true) (l := [⟨#[114]⟩]) (by decide) (fun X bw bd bh bm hox hsx hbw hbm nmw ndm nhm hmm hw => ?_)
    repeat first|(apply x1;apply r0;apply r0)|apply w4|apply w6|apply w7|apply wb|apply w5
    refine aw_loop (fun i : Nat => i ≤ d) (fun i => [(1, .sl (encStrs names) .no), (6, .i d), (8, .ptr bw 0), (9, .s ⟨#[]⟩), (10, .i 0), (11, .i (wnt names.length i)), (12, .i (lvl names.length i)), (13, .i i)]) (fun _ => X) (fun i => d - i) 0 (Nat.zero_le _) (by repeat (first | exact Fr.sub_nil _ | refine Fr.sub_cons rfl ?_)) (AHeap.sub_refl _) ?_
    rintro i hi
    repeat first|(apply x1;apply r0;apply r0)|apply w4|apply w6|apply w7|apply w5
    refine aw_cond rfl (fun c3 => ?_) (fun c3 => ?_)<;>first|replace c3:=of_decide_eq_true c3|replace c3:=of_decide_eq_false c3
    · have hid : i < d := by omega
      have hl1 := lvl_le names.length i hn4 (by omega)
      have hl2 := lvl_le names.length (i + 1) hn4 (by omega)
      have hlv : ((lvl names.length (i + 1) : Nat) : Int) = (lvl names.length i : Int) * (((encStrs names).length : Nat) : Int) := by rw [ln]; exact Int.natCast_mul _ _
      have hwn : ((wnt names.length (i + 1) : Nat) : Int) = (wnt names.length i : Int) + (lvl names.length (i + 1) : Int) := Int.natCast_add _ _
      repeat first|(apply x1;apply r0;apply r0)|apply w6|apply w7|apply wa|apply wb|apply w5
      refine s_arith (r := (lvl names.length (i + 1) : Nat)) rfl rfl rfl (congrArg some ((wrap_id (by rw [← hlv]; omega)).trans hlv.symm)) ?_
      repeat first|(apply x1;apply r0;apply r0)|apply w4|(apply x6;apply r0;omega)|apply w7|apply w5|apply wg
      rw [← hwn]
      skip
      exact ⟨i + 1, hid, by omega, (by repeat (first | exact Fr.sub_nil _ | refine Fr.sub_cons rfl ?_)), AHeap.sub_refl _⟩
    have hid : i = d := by omega
    subst hid
    have hb85 := (lvl_le names.length i hn4 (by omega)).2
    rw [wnt_sz names.length i hd4] at hb85 ⊢
    rw [hlen] at hb85 ⊢
    repeat first|apply w6|apply wb|apply wc|apply w5|apply wf|apply wh
    refine aw_loop (fun s : Nat × Wkr × List (List UInt8) × ByteArray × AHeap => OrdSt i cs s.2.2.2.1 s.1 s.2.2.1 ∧ s.2.1.deep = true ∧ s.2.1.how = 80 ∧ s.2.1.left.map Itm.path = s.2.2.1.map pthB ∧ WkAt s.2.2.2.2 bw bd bh bm s.2.1 ∧ H.sub s.2.2.2.2) (fun s => [(1, .sl (encStrs names) .no), (6, .i i), (8, .ptr bw 0), (9, .s s.2.2.2.1), (10, .i s.1), (11, .i (szT cs.length i))]) (fun s => s.2.2.2.2) (fun s => 400 - s.1) (0, newWk 80 true [⟨#[114]⟩], [[]], ⟨#[]⟩, X) ⟨OrdSt.first i cs, rfl, rfl, rfl, hw, hsx⟩ (by repeat (first | exact Fr.sub_nil _ | refine Fr.sub_cons rfl ?_)) (AHeap.sub_refl _) ?_
    clear hw hmm
    rintro ⟨n, w, qs, last, Y⟩ ⟨ho, hwd, hwh, hleft, hw, hsy⟩
    dsimp only at ho hwd hwh hleft hw hsy ⊢
    have hcnt := ho.cnt
    have hn85 : n ≤ 85 := by omega
    have hql := remN_ge cs.length i qs
    have hwl : w.left.length = qs.length := by have := congrArg List.length hleft; simpa using this
    repeat first|(apply x1;apply r0;apply r0)|apply w4|apply w6|apply w7|apply w5
    refine aw_cond rfl (fun c4 => ?_) (fun c4 => ?_)<;>first|replace c4:=of_decide_eq_true c4|replace c4:=of_decide_eq_false c4
    case refine_2 => omega
    repeat first|(apply x1;apply r0;apply r0)|(apply x9;apply r0)|apply w6|apply w7|apply wa|apply wb|apply w5
    refine wnext_c hw (fun hn => ?_) (fun i' l' hn => ?_)
    · have hqs : qs = [] := List.length_eq_zero_iff.1 (by rw [← hwl, hn]; rfl)
      subst hqs
      have hnw : n = szT cs.length i := by
        rw [show remN cs.length i [] = 0 from rfl] at hcnt; omega
      repeat (apply x1;apply r0;apply r0)
      refine s_alloc tk rfl rfl rfl (fun b14 hb14 => ?_); have hb := hb14; (try simp only [put_none_iff, prot_none_iff] at hb); (repeat obtain ⟨_, _, hb⟩ := hb)
      (apply xst;apply r0;(apply ps);apply r0)
      rw [put_put]
      repeat first|(apply gO;first|(apply x1;apply r0;apply r0)|apply w4)|(apply gW;first|apply w6|apply w7|(apply w8;apply r0)|apply wc)|apply w5|apply wf|apply wh|(apply wi;apply r0)
      refine s_gsplit rfl rfl (fun v1 => ?_) (fun v1 => ?_)<;>first|replace v1:=of_decide_eq_true v1|replace v1:=of_decide_eq_false v1
      case refine_2 => omega
      repeat first|(apply x1;apply r0;apply r0)|(apply x5;apply r0)|(apply x9;apply r0)
      refine left_c (hw.other hb14 _) ?_
      rw [hn]
      repeat first|(apply x1;apply r0;apply r0)|(apply x5;apply r0)|apply w4|apply wd|apply w5
      exact rt1 (H' := H) rfl rfl (.refl _) (by repeat first|assumption|(apply su3;assumption;assumption)) hK
    cases qs with
    | nil => rw [hn] at hwl; cases hwl
    | cons q qs =>
    rw [hn, List.map_cons, List.map_cons] at hleft
    obtain ⟨hp, hleft'⟩ := List.cons.inj hleft
    have ho2 := ho.next hrise hns
    obtain ⟨hlow1, hlow2⟩ := less_ne (a := last) (b := pthB q) (ho.low q List.mem_cons_self)
    have hpz := pth_size q
    have hlq := ho.len q List.mem_cons_self
    have hnq := ho.ns q List.mem_cons_self
    have hl9 : l'.length ≤ 1000000 := by
      rw [hn] at hwl; simp only [List.length_cons] at hwl hql; omega
    obtain ⟨px, op, fo⟩ := i'
    replace hp : px = pthB q := hp
    rw [← hp] at hlow1 hlow2 hpz ho2
    have hj : ∀ c, joinOf px (nmB c) = pthB (q ++ [c]) := fun c => by rw [hp]; exact pth_join q c hnq
    clear hp hleft hn hwl hql hcnt ho hnq
    replace hw := hw.put (w' := { w with left := l', last := ⟨px, op, fo⟩, begun := true }) rfl rfl
    have hsy2 : H.sub (Y.put bw (.cells (encWk { w with left := l', last := ⟨px, op, fo⟩, begun := true } bd bh bm))) := AHeap.sub_put hsy _ hbw
    generalize Y.put bw _ = Z at hw hsy2 ⊢
    repeat (apply x1;apply r0;apply r0)
    refine s_alloc tk rfl rfl rfl (fun b14 hb14 => ?_); have hb := hb14; (try simp only [put_none_iff, prot_none_iff] at hb); (repeat obtain ⟨_, _, hb⟩ := hb)
    (apply xst;apply r0;(apply ps);apply r0)
    rw [put_put]
    replace hw := hw.other hb14 (.cells (encItm ⟨px, op, fo⟩))
    have hsy3 : H.sub (Z.put b14 (.cells (encItm ⟨px, op, fo⟩))) := AHeap.sub_put hsy2 _ (sub_none hsy2 hb14)
    have h14 : (Z.put b14 (.cells (encItm ⟨px, op, fo⟩))) b14 = some (.cells [.s px, .b op, .b fo]) := put_same _ _ _
    generalize Z.put b14 _ = W at hw hsy3 h14 ⊢
    repeat first|(apply gO;first|(apply x1;apply r0;apply r0)|(apply x2;apply r0;(with_reducible repeat exact q1 ‹_›);apply r0)|apply w4|(apply x6;apply r0;omega))|(apply gW;first|apply w6|apply w7|(apply w9;apply r0)|apply wa)|apply w5
    rw [hlow1, decide_eq_false hlow2]
    repeat first|(apply x1;apply r0;apply r0)|(apply x2;apply r0;(with_reducible repeat exact q1 ‹_›);apply r0)|(apply x5;apply r0)|(apply w3;apply r0;apply r0)
    refine s_rem rfl rfl rfl (by decide) (by omega) ?_
    rw [show (px.size : Int) % 2 = 1 by omega]
    repeat first|(apply gO;first|(apply x1;apply r0;apply r0)|(apply x2;apply r0;(with_reducible repeat exact q1 ‹_›);apply r0)|(apply x5;apply r0)|apply w4)|(apply gW;first|apply w6|apply w7|(apply w9;apply r0)|apply wa)|apply w5
    refine s_arith (r := 2 * (i : Int)) rfl rfl rfl (congrArg some (wrap_id ⟨by omega, by omega⟩)) ?_
    repeat first|(apply x1;apply r0;apply r0)|apply w4|(apply x6;apply r0;omega)|apply w5
    refine aw_cond rfl (fun u2 => ?_) (fun u2 => ?_)<;>first|replace u2:=of_decide_eq_true u2|replace u2:=of_decide_eq_false u2
    · have hlt : q.length < i := by omega
      have hnq : nextQ i cs q qs = cs.map (fun c => q ++ [c]) ++ qs := if_pos hlt
      rw [hnq] at ho2
      repeat first|(apply x1;apply r0;apply r0)|(apply x9;apply r0)|apply w7
      refine wenter_c (names := names) (by show px.size ≤ _; omega) (by omega) hsz1 hl9 hw (fun h => ?_) (fun _ => ?_)
      · have h2 : (w.deep && true) = false := h
        rw [hwd] at h2; cases h2
      have hpp : (enterL { w with left := l', last := ⟨px, op, fo⟩, begun := true } names).map Itm.path = (cs.map (fun c => q ++ [c]) ++ qs).map pthB := by
        unfold enterL
        rw [hsort, List.map_append, List.map_append, List.map_map]
        show (names.map fun s => joinOf px s) ++ l'.map Itm.path = _
        rw [hleft', hcs, List.map_map, List.map_map]
        congr 1
        exact List.map_congr_left fun c _ => hj c
      repeat first|apply w4|apply w5|apply wg
      exact ⟨(n + 1, { w with left := enterL { w with left := l', last := ⟨px, op, fo⟩, begun := true } names, last := ⟨px, op, fo⟩, begun := true }, cs.map (fun c => q ++ [c]) ++ qs, px, _), ⟨ho2, hwd, hwh, hpp, hw.put rfl rfl, AHeap.sub_put hsy3 _ hbw⟩, by dsimp only; omega, (by repeat (first | exact Fr.sub_nil _ | refine Fr.sub_cons rfl ?_)), AHeap.sub_refl _⟩
    have hlt : ¬ q.length < i := by omega
    have hnq : nextQ i cs q qs = qs := if_neg hlt
    rw [hnq] at ho2
    repeat first|apply wa|apply w5|apply wg
    exact ⟨(n + 1, { w with left := l', last := ⟨px, op, fo⟩, begun := true }, qs, px, W), ⟨ho2, hwd, hwh, hleft', hw, hsy3⟩, by dsimp only; omega, (by repeat (first | exact Fr.sub_nil _ | refine Fr.sub_cons rfl ?_)), AHeap.sub_refl _⟩
  have hkn : k < names.length := by omega
  have hget := strs_get names k hkn
  repeat first|apply w6|apply wa|apply wb|apply w5
  refine aw_plan mixed (.take 0 (.take 1 (.take 2 (.take 3 (.take 4 (.take 5 (.take 6 (.take 7 (.take 8 (.take 9 (.take 10 (.take 11 (.take 12 (.take 13 (.take 14 (.take 15 (.take 16 (.take 17 (.take 18 (.take 19 (.take 20 (.take 21 (.take 22 (.take 23 (.take 24 (.take 25 (.take 26 (.take 27 (.take 28 .done))))))))))))))))))))))))))))) (by kernel_rfl) ?_
  repeat (apply y1;apply r0;apply r0)
  refine d_index rfl rfl rfl rfl rfl rfl (by omega) hget rfl ?_
  repeat first|(apply y1;apply r0;apply r0)|(apply y3;apply r0;apply r0)
  refine d_split rfl rfl rfl (fun e1 => ?_) (fun e1 => ?_)<;>first|replace e1:=not_t e1|replace e1:=not_f e1
  · repeat first|(apply gO;first|(apply x1;apply r0;apply r0)|apply w4)|(apply gP;first|(apply y1;apply r0;apply r0)|apply y0|(apply take1_ok;apply r0))|(apply gW;first|apply w6|apply w7|(apply w8;apply r0)|apply wd)|apply w5|apply we|apply wj
    skip
    exact rt1 (H' := H) rfl rfl (.refl _) s0 hK
  repeat (apply take1_ok;apply r0)
  refine d_index rfl rfl rfl rfl rfl rfl (by omega) hget rfl ?_
  repeat first|(apply y1;apply r0;apply r0)|(apply take1_ok;apply r0)|(apply y3;apply r0;apply r0)
  refine d_split rfl rfl rfl (fun e2 => ?_) (fun e2 => ?_)<;>first|replace e2:=of_decide_eq_true e2|replace e2:=of_decide_eq_false e2
  · repeat first|(apply gO;first|(apply x1;apply r0;apply r0)|apply w4)|(apply gP;first|(apply y1;apply r0;apply r0)|apply y0|(apply take1_ok;apply r0))|(apply gW;first|apply w6|apply w7|(apply w8;apply r0)|apply wd)|apply w5|apply we|apply wj
    skip
    exact rt1 (H' := H) rfl rfl (.refl _) s0 hK
  repeat (apply take1_ok;apply r0)
  refine d_split rfl rfl rfl (fun e3 => ?_) (fun e3 => ?_)<;>first|replace e3:=of_decide_eq_true e3|replace e3:=of_decide_eq_false e3
  · have hk1 : k - 1 < names.length := by omega
    have hget1 : (encStrs names)[((k : Int) - 1).toNat]? = some [.s names[k - 1]] := by rw [show ((k : Int) - 1).toNat = ((k - 1 : Nat) : Int).toNat by omega]; exact strs_get names (k - 1) hk1
    repeat first|(apply take1_ok;apply r0)|(apply y7;apply r0;apply r0;omega)
    refine d_index rfl rfl rfl rfl rfl rfl (by omega) hget1 rfl ?_
    repeat first|(apply take1_ok;apply r0)|(apply y3;apply r0;apply r0)
    refine d_index rfl rfl rfl rfl rfl rfl (by omega) hget rfl ?_
    repeat first|(apply y1;apply r0;apply r0)|apply y0|(apply take1_ok;apply r0)|(apply y3;apply r0;apply r0)|apply w5
    skip
    refine aw_cond rfl (fun e4 => ?_) (fun e4 => ?_)
    · repeat first|(apply gO;first|(apply x1;apply r0;apply r0)|apply w4)|(apply gW;first|apply w6|apply w7|apply wd)|apply w5|apply we|apply wj
      exact rt1 (H' := H) rfl rfl (.refl _) s0 hK
    repeat first|(apply x1;apply r0;apply r0)|apply w4|(apply x6;apply r0;omega)|apply w7|apply wa|apply w5|apply wg
    exact ⟨k + 1, ⟨hkn, okNm_step hall ⟨fun _ => ⟨by omega, e2⟩, fun _ _ => by simpa using e4⟩⟩, by omega, (by repeat (first | exact Fr.sub_nil _ | refine Fr.sub_cons rfl ?_)), AHeap.sub_refl _⟩
  repeat first|(apply gO;first|(apply x1;apply r0;apply r0)|apply w4|(apply x6;apply r0;omega))|(apply gP;first|(apply y1;apply r0;apply r0)|apply y0|(apply take1_ok;apply r0))|(apply gW;first|apply w7|(apply w9;apply r0)|apply wa)|apply w5|apply wg
  exact ⟨k + 1, ⟨hkn, okNm_step hall ⟨fun _ => ⟨by omega, e2⟩, fun _ h0 => absurd (by omega) e3⟩⟩, by omega, (by repeat (first | exact Fr.sub_nil _ | refine Fr.sub_cons rfl ?_)), AHeap.sub_refl _⟩
end Abs
end Go.Proofs.Ytbldnaflffmddaa
