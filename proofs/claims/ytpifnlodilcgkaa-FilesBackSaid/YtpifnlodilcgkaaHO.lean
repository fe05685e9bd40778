import Derived.Test.YtpifnlodilcgkaaHN
import Derived.Test.YtpifnlodilcgkaaHL
import Derived.Test.YtpifnlodilcgkaaY1
set_option linter.unusedVariables false
namespace Go.Proofs.Ytpifnlodilcgkaa
namespace Abs
set_option linter.unusedSimpArgs false
set_option maxRecDepth 10000
set_option maxHeartbeats 2000000
attribute [local irreducible] AOps AW AP ACalls thenQ inBlk noGoto

/-! ### FilesBack -/
theorem encB_get (s : ByteArray) (j : Nat) : (encBytes s)[j]? = ((byL s)[j]?).map fun c => [.sc (.int .u8 c.toNat)] := by rw [encB_byL, List.getElem?_map]
theorem same_selfO (T : Tab) : T.same T = true := same_selfG T
theorem wk3o {a b c d : AVal} (h : Wk c d) : Wk (.tup [a, b, c]) (.tup [a, b, d]) := .tup rfl (fun j h1 h2 => match j with | 0 => .refl _ | 1 => .refl _ | 2 => h)
theorem rootC_smallO : rootC.small := (by decide : (0 : Nat) ≤ 1073741824)
theorem filesBack_c {room : Int} {l : List Raw} (hl : l.length ≤ 9223372036854775807) {i off cut : Int} (hi : 0 ≤ i ∧ i ≤ 255) (hoff : 0 ≤ off ∧ off ≤ 255) (hcut : 0 ≤ cut ∧ cut ≤ 255) {b : ByteArray} (hb0 : b.size ≤ 9223372036854775807) {H : AHeap} {K : AVal → AHeap → Prop} (hK : K (.b true) H) :
    ACalls Try.prog 4 [.i room, .sl (encRaws l) .no, .sc (.int .u8 i), .sc (.int .u8 off), .sl (encBytes b) .no, .sc (.int .u8 cut)] H K := by
  refine acalls_body Try.func4 rfl rfl rfl ?_
  have hlb := encBytes_len b
  repeat first|(apply x1;apply r0;apply r0)|(apply x9;apply r0)|apply w4|apply w6|apply w7|apply w5
  refine awake16_c ?_
  repeat first|(apply gO;first|(apply x1;apply r0;apply r0)|(apply xbd;apply r0)|(apply x9;apply r0)|apply w4)|(apply gW;first|apply w6|apply w7|(apply w9;apply r0)|apply wa)|apply w5
  refine ACalls.wk (built16_c (c := rootC) hl ?_ (fun T t hB ht => ?_)) (wk3o (wk_agg rfl))
  · repeat first|(apply gO;first|(apply x1;apply r0;apply r0)|apply w4|(apply w3;apply r0;apply r0))|(apply gW;first|apply w6|apply w7|(apply w8;apply r0)|apply wd)|apply w5|apply we
    exact rt1 (H' := H) rfl rfl (.refl _) s0 hK
  have hg := hB.good
  repeat first|(apply x1;apply r0;apply r0)|(apply x5;apply r0)|apply w4|apply w6|apply w7|apply w5
  refine s_gsplit rfl rfl (fun g1 => ?_) (fun g1 => ?_)<;>first|replace g1:=of_decide_eq_true g1|replace g1:=of_decide_eq_false g1
  · repeat first|(apply gO;first|(apply x1;apply r0;apply r0)|apply w4|(apply w3;apply r0;apply r0))|(apply gW;first|apply w6|apply w7|(apply w8;apply r0)|apply wd)|apply w5|apply we
    exact rt1 (H' := H) rfl rfl (.refl _) (by repeat first|exact s0|(apply su1;assumption)) hK
  rw [hlb] at g1
  repeat first|(apply x1;apply r0;apply r0)|(apply x5;apply r0)|apply w4|apply w5
  refine aw_cond rfl (fun g2 => ?_) (fun g2 => ?_)<;>first|replace g2:=of_decide_eq_true g2|replace g2:=of_decide_eq_false g2
  · repeat first|(apply x1;apply r0;apply r0)|apply w4|apply w6|apply w7|apply wd|apply w5|apply we
    exact rt1 (H' := H) rfl rfl (.refl _) (by repeat first|exact s0|(apply su1;assumption)) hK
  rw [hlb] at g2
  have hb1 : 0 < b.size := by omega
  have hb60 : b.size ≤ 60 := by omega
  repeat first|(apply x1;apply r0;apply r0)|apply w6|apply w7|apply wa|apply w5
  refine s_conv (r := i) tk rfl rfl rfl rfl (wrap_id ⟨by omega, by omega⟩) ?_
  skip
  refine s_rem rfl rfl rfl (by decide) hi.1 ?_
  repeat first|(apply x1;apply r0;apply r0)|apply w4|(apply x6;apply r0;omega)|apply w6|apply w7|apply w5
  obtain ⟨k, hk⟩ : ∃ k : Int, k = i % 24 + 1 := ⟨_, rfl⟩
  rw [← hk]
  skip
  refine s_rem rfl rfl rfl (by decide) hoff.1 ?_
  skip
  refine s_conv (r := off % 50) tk rfl rfl rfl rfl (wrap_id ⟨by omega, by omega⟩) ?_
  obtain ⟨ad, had⟩ : ∃ ad : Int, ad = off % 50 := ⟨_, rfl⟩
  have had1 : 0 ≤ ad ∧ ad ≤ 49 := by omega
  rw [← had]
  have hL := back_law hg (k := k) (b := b) had1.1 hb1
  repeat first|(apply x1;apply r0;apply r0)|(apply xbd;apply r0)|apply w4|apply w6|apply w7|apply w5
  refine s_alloc tk rfl rfl rfl (fun b18 hb18 => ?_); have hb := hb18; (try simp only [put_none_iff, prot_none_iff] at hb); (repeat obtain ⟨_, _, hb⟩ := hb)
  (apply xst;apply r0;(apply ps);apply r0)
  rw [put_put]
  refine aops_wk (ds := encCred rootC) rfl ?_
  have n18 : b18 ≠ t := by
    have h9 : (H.put t (.cells (encTab T))) b18 = none := by assumption
    exact Ne.symm (get_ne (put_same _ _ _) h9)
  repeat first|(apply x1;apply r0;apply r0)|(apply x9;apply r0)|apply w4|apply w6|apply w7|apply w5
  refine readAt_c hg (by with_reducible repeat first|assumption|apply q0|apply q3) ?_
  generalize T.readF k 0 100 = P at hL ⊢
  repeat first|(apply x1;apply r0;apply r0)|(apply x9;apply r0)|apply w4|apply w6|apply w7|apply w5
  refine clone_c hg.wf (by with_reducible repeat first|assumption|apply q0|apply q3) (fun u hu0 => ?_)
  generalize hX : AHeap.put _ b18 _ = X at hu0 ⊢
  have xT' : X t = some (.cells (encTab T)) := by rw [← hX]; exact (by apply get_eq;(focus with_reducible repeat first|assumption|apply ps|apply gp);rfl)
  have xr18 : Rd X b18 (encCred rootC) := by rw [← hX]; exact (by apply rd_eq;(focus apply q0);rfl)
  have xss : H.sub X := by rw [← hX]; exact (by repeat first|exact s0|(apply su1;assumption))
  clear hX
  have fu : H u = none := sub_none xss hu0
  have ntu : t ≠ u := get_ne xT' hu0
  have nut : u ≠ t := Ne.symm ntu
  have n18u : b18 ≠ u := rd_ne xr18 hu0
  have nu18 : u ≠ b18 := Ne.symm n18u
  generalize hX2 : AHeap.put _ u _ = X2
  have zT2 : X2 t = some (.cells (encTab T)) := by rw [← hX2]; exact (by apply get_eq;(focus with_reducible repeat first|assumption|apply gp);rfl)
  have zr18 : Rd X2 b18 (encCred rootC) := by rw [← hX2]; exact (by apply rd_eq;(focus with_reducible repeat first|assumption|apply q3);rfl)
  have zu2 : X2 u = some (.cells (encTab T)) := by rw [← hX2]; exact (by apply get_eq;(focus apply ps);rfl)
  have zs2 : H.sub X2 := by rw [← hX2]; exact (by repeat first|assumption|(apply su1;assumption))
  clear hX2
  have hTwo := hL.two
  repeat first|(apply x1;apply r0;apply r0)|(apply x2;apply r0;(with_reducible assumption);apply r0)|(apply x9;apply r0)|apply w4|apply w6|apply w7|apply w5
  refine writeAt_c (c := rootC) hg rootC_smallO hb0 (by with_reducible assumption) ?_
  generalize T.writeF rootC k ad b = W at hL hTwo ⊢
  obtain ⟨hgW, l1, l2, l3⟩ := hL
  generalize hY : AHeap.put _ t _ = Y
  have yT : Rd Y t (encTab W.1) := by rw [← hY]; exact (by apply rd_eq;(focus apply q0);rfl)
  have yU : Y u = some (.cells (encTab T)) := by rw [← hY]; exact (by apply get_eq;(focus with_reducible repeat first|assumption|apply gp);rfl)
  have yr18 : Rd Y b18 (encCred rootC) := by rw [← hY]; exact (by apply rd_eq;(focus with_reducible repeat first|assumption|apply q3);rfl)
  have ys : H.sub Y := by rw [← hY]; exact (by repeat first|assumption|(apply su1;assumption))
  clear hY
  repeat first|(apply x1;apply r0;apply r0)|apply w4|apply w6|apply w7|apply w5
  refine s_gsplit rfl rfl (fun e1 => ?_) (fun e1 => ?_)<;>first|replace e1:=not_t e1|replace e1:=not_f e1
  · repeat first|(apply gO;first|(apply x1;apply r0;apply r0)|(apply x9;apply r0)|apply w4|(apply w3;apply r0;apply r0))|(apply gW;first|apply w6|apply w7|(apply w8;apply r0))|apply w5
    refine tsame_c hgW.wf hg.wf (by with_reducible assumption) (by with_reducible repeat exact q1 ‹_›) ?_
    rw [l1 (.inl e1), same_selfO]
    repeat first|(apply x1;apply r0;apply r0)|apply w4|apply wd|apply w5|apply we
    exact rt1 (H' := H) rfl rfl (.refl _) (by repeat assumption) hK
  repeat first|(apply x1;apply r0;apply r0)|(apply x5;apply r0)|apply w4|apply w5
  refine aw_cond rfl (fun e2 => ?_) (fun e2 => ?_)<;>first|replace e2:=not_t e2|replace e2:=not_f e2
  · repeat first|(apply x1;apply r0;apply r0)|(apply x9;apply r0)|apply w6|apply w7
    refine tsame_c hgW.wf hg.wf (by with_reducible assumption) (by with_reducible repeat exact q1 ‹_›) ?_
    rw [l1 (.inr e2), same_selfO]
    repeat first|(apply x1;apply r0;apply r0)|apply w4|apply wd|apply w5|apply we
    exact rt1 (H' := H) rfl rfl (.refl _) (by repeat assumption) hK
  have e1' : P.2 = 0 := e1
  have e2' : W.2 = 0 := e2
  obtain ⟨p1', p2', p3', p4'⟩ := l2 e1' e2'
  have hT2 := hTwo e1' e2'
  rw [p1']
  generalize (T.at k).data = d at p2' p3' p4' ⊢
  have hol := outL_len d b ad.toNat
  have hrest := out_rest d b ad.toNat
  generalize outL d b ad.toNat = o at p3' hol hrest ⊢
  have hld := encBytes_len d
  have hlo : (encBytes (ofL o)).length = max d.size (ad.toNat + b.size) := by rw [encB_ofL, List.length_map, hol]
  repeat first|(apply x1;apply r0;apply r0)|(apply x9;apply r0)|apply w6|apply w7|apply wa|apply w5
  refine readAt_c hgW (by with_reducible assumption) ?_
  rw [p3']
  repeat first|(apply x1;apply r0;apply r0)|(apply x9;apply r0)|apply w4|apply w6|apply w7|apply w5
  rw [hlb]
  refine readAt_c hgW (by with_reducible assumption) ?_
  rw [p4']
  repeat first|(apply x1;apply r0;apply r0)|apply w4|apply w6|apply w7|apply w5
  refine s_str (s := b) tk rfl rfl rfl rfl rfl ?_
  repeat (apply x1;apply r0;apply r0)
  refine s_str (s := b) tk rfl rfl rfl rfl rfl ?_
  repeat (apply x1;apply r0;apply r0)
  refine s_gsplit rfl rfl (fun v1 => ?_) (fun v1 => ?_)<;>first|replace v1:=not_t v1|replace v1:=not_f v1
  · exact absurd rfl v1
  repeat first|(apply x1;apply r0;apply r0)|(apply x5;apply r0)|apply w4|(apply x6;apply r0;omega)|apply w5
  refine aw_cond rfl (fun v2 => ?_) (fun v2 => ?_)<;>first|replace v2:=not_t v2|replace v2:=not_f v2
  · exact absurd (by rw [hlo, hld]; (first | rw [hlb] | skip); split <;> omega) v2
  generalize hm : max d.size (ad.toNat + b.size) = m at hlo hol hrest
  repeat first|(apply x1;apply r0;apply r0)|apply w4|apply w6|apply w7|apply wa|apply wb|apply w5
  refine aw_loop (fun j : Nat => j ≤ m) (fun j => [(4, .sl (encBytes b) .no), (5, .sc (.int .u8 cut)), (14, .ptr t 0), (16, .i k), (17, .i ad), (18, .ptr b18 0), (19, .sl (encBytes d) .no), (21, .ptr u 0), (23, .sl (encBytes (ofL o)) .no), (27, .i (j : Int))]) (fun _ => Y) (fun j => m - j) 0 (Nat.zero_le _) (by repeat (first | exact Fr.sub_nil _ | refine Fr.sub_cons rfl ?_)) (AHeap.sub_refl _) ?_
  intro j hj
  repeat first|(apply x1;apply r0;apply r0)|apply w4|apply w6|apply w7|apply w5
  refine aw_cond rfl (fun c1 => ?_) (fun c1 => ?_)<;>first|replace c1:=of_decide_eq_true c1|replace c1:=of_decide_eq_false c1
  case refine_2 =>
    repeat first|(apply x1;apply r0;apply r0)|apply w6|apply w7|apply wc|apply w5|apply wf|apply wh
    refine s_conv (r := cut) tk rfl rfl rfl rfl (wrap_id ⟨by omega, by omega⟩) ?_
    repeat first|(apply x1;apply r0;apply r0)|(apply x6;apply r0;omega)
    refine s_rem rfl rfl rfl (by omega) hcut.1 ?_
    have hm1 := Int.emod_nonneg cut (show ((((encBytes b).length : Nat) : Int) + 1) ≠ 0 by omega)
    have hm2 := Int.emod_lt_of_pos cut (show 0 < ((((encBytes b).length : Nat) : Int) + 1) by omega)
    obtain ⟨nn, hnn⟩ : ∃ nn : Nat, (nn : Int) = cut % ((((encBytes b).length : Nat) : Int) + 1) := ⟨(cut % ((((encBytes b).length : Nat) : Int) + 1)).toNat, Int.toNat_of_nonneg hm1⟩
    rw [← hnn] at hm2 ⊢
    have hnb : nn ≤ b.size := by omega
    obtain ⟨w1', w2', w3'⟩ := hT2 nn hnb
    have s1' : (ofL ((byL b).take nn)).size ≤ 60 := by show (List.toArray _).size ≤ 60; rw [List.size_toArray, List.length_take, byL_len]; omega
    have s2' : (ofL ((byL b).drop nn)).size ≤ 60 := by show (List.toArray _).size ≤ 60; rw [List.size_toArray, List.length_drop, byL_len]; omega
    have bp1 := (bytes_part b 0 nn).2
    have bp2 := (bytes_part b nn 0).1
    repeat first|(apply x1;apply r0;apply r0)|apply w4|apply w6|apply w5
    refine aw_prot [b18] (allc (by with_reducible assumption) (allc0 _)) ?_
    refine aw_plan mixed (.take 0 (.take 1 (.take 2 (.take 3 (.take 4 (.take 5 (.take 6 (.one 7 (.take 8 .done))))))))) (by kernel_rfl) ?_
    repeat first|(apply y1;apply r0;apply r0)|(apply y2;apply r0;apply r0;(with_reducible repeat first|assumption|apply pg|exact mm0);apply r0)
    refine d_stab rfl rfl rfl (pures_slice_sl (l := 0) (h := (nn : Int)) tk rfl rfl (uni_bytes b) rfl rfl (by omega) (by omega) (by omega)).stab ?_
    rw [show ((encBytes b).take ((nn : Nat) : Int).toNat).drop (0 : Int).toNat = encBytes (ofL ((byL b).take nn)) from bp1]
    repeat first|(apply x9;apply r0)|(apply y4;apply r0)
    refine writeAt_c (c := rootC) hg rootC_smallO (Nat.le_trans s1' (by decide)) (by with_reducible repeat first|assumption|apply gq|apply nm1|exact nm0) ?_
    rw [w1']
    generalize T.writeF rootC k ad (ofL ((byL b).take nn)) = G at w2' w3' ⊢
    repeat first|apply w4|(apply y1;apply r0;apply r0)|apply y0
    refine prot_done_put (by simp only [List.mem_cons,List.not_mem_nil,or_false,not_or]; first|exact (by first|assumption|exact n1 ‹_› ‹_›|exact n2 ‹_› ‹_›|exact n3 ‹_› ‹_›|exact n4 ‹_› ‹_›)|exact ⟨(by first|assumption|exact n1 ‹_› ‹_›|exact n2 ‹_› ‹_›|exact n3 ‹_› ‹_›|exact n4 ‹_› ‹_›),(by first|assumption|exact n1 ‹_› ‹_›|exact n2 ‹_› ‹_›|exact n3 ‹_› ‹_›|exact n4 ‹_› ‹_›)⟩|exact ⟨(by first|assumption|exact n1 ‹_› ‹_›|exact n2 ‹_› ‹_›|exact n3 ‹_› ‹_›|exact n4 ‹_› ‹_›),(by first|assumption|exact n1 ‹_› ‹_›|exact n2 ‹_› ‹_›|exact n3 ‹_› ‹_›|exact n4 ‹_› ‹_›),(by first|assumption|exact n1 ‹_› ‹_›|exact n2 ‹_› ‹_›|exact n3 ‹_› ‹_›|exact n4 ‹_› ‹_›)⟩) ?_
    repeat first|apply w6|apply w5
    refine aw_prot [b18] (allc (by with_reducible repeat first|assumption|apply q3) (allc0 _)) ?_
    refine aw_plan mixed (.take 0 (.take 1 (.take 2 (.take 3 (.take 4 (.take 5 (.take 6 (.take 7 (.take 8 (.one 9 (.take 10 .done))))))))))) (by kernel_rfl) ?_
    repeat first|(apply y1;apply r0;apply r0)|(apply y2;apply r0;apply r0;(with_reducible repeat first|assumption|apply pg|apply q3|exact mm0);apply r0)|(apply y6;apply r0;apply r0;omega)
    refine d_stab rfl rfl rfl (pures_slice_sl (l := (nn : Int)) (h := (((encBytes b).length : Nat) : Int)) tk rfl rfl (uni_bytes b) rfl rfl (by omega) (by omega) (Int.le_refl _)).stab ?_
    rw [show ((encBytes b).take ((((encBytes b).length : Nat) : Int)).toNat).drop ((nn : Nat) : Int).toNat = encBytes (ofL ((byL b).drop nn)) from bp2]
    repeat first|(apply x9;apply r0)|(apply y4;apply r0)
    refine writeAt_c (c := rootC) w2' rootC_smallO (Nat.le_trans s2' (by decide)) (by with_reducible repeat first|assumption|apply ps|apply gq|apply nm1|exact nm0) ?_
    rw [w3']
    repeat first|apply w4|(apply y1;apply r0;apply r0)|apply y0
    refine prot_done_put (by simp only [List.mem_cons,List.not_mem_nil,or_false,not_or]; first|exact (by first|assumption|exact n1 ‹_› ‹_›|exact n2 ‹_› ‹_›|exact n3 ‹_› ‹_›|exact n4 ‹_› ‹_›)|exact ⟨(by first|assumption|exact n1 ‹_› ‹_›|exact n2 ‹_› ‹_›|exact n3 ‹_› ‹_›|exact n4 ‹_› ‹_›),(by first|assumption|exact n1 ‹_› ‹_›|exact n2 ‹_› ‹_›|exact n3 ‹_› ‹_›|exact n4 ‹_› ‹_›)⟩|exact ⟨(by first|assumption|exact n1 ‹_› ‹_›|exact n2 ‹_› ‹_›|exact n3 ‹_› ‹_›|exact n4 ‹_› ‹_›),(by first|assumption|exact n1 ‹_› ‹_›|exact n2 ‹_› ‹_›|exact n3 ‹_› ‹_›|exact n4 ‹_› ‹_›),(by first|assumption|exact n1 ‹_› ‹_›|exact n2 ‹_› ‹_›|exact n3 ‹_› ‹_›|exact n4 ‹_› ‹_›)⟩) ?_
    repeat first|(apply x1;apply r0;apply r0)|(apply x5;apply r0)|(apply x9;apply r0)|apply w6|apply w7|apply w5
    refine tsame_c hgW.wf hgW.wf (by apply q0) (by with_reducible repeat first|assumption|apply q3) ?_
    rw [same_selfO]
    repeat first|(apply x1;apply r0;apply r0)|apply w4|apply wd|apply w5
    exact rt1 (H' := H) rfl rfl (.refl _) (by repeat first|assumption|(apply su1;assumption)) hK
  rw [hlo] at c1
  have c1' : j < m := by omega
  repeat first|(apply x1;apply r0;apply r0)|apply w6|apply w7|apply wa|apply wb|apply w5
  refine s_gsplit rfl rfl (fun a1 => ?_) (fun a1 => ?_)<;>first|replace a1:=of_decide_eq_true a1|replace a1:=of_decide_eq_false a1
  · repeat first|(apply x1;apply r0;apply r0)|(apply x5;apply r0)|apply w4|(apply x6;apply r0;omega)|apply w5
    refine aw_cond rfl (fun a2 => ?_) (fun a2 => ?_)<;>first|replace a2:=of_decide_eq_true a2|replace a2:=of_decide_eq_false a2
    · repeat first|(apply gO;first|(apply x1;apply r0;apply r0)|apply w4|(apply x6;apply r0;omega))|(apply gW;first|apply w7|apply wc)|apply w5|apply wf|apply wh
      exact ⟨j + 1, by omega, by omega, (by repeat (first | exact Fr.sub_nil _ | refine Fr.sub_cons rfl ?_)), s0⟩
    have a2' : ¬ (j : Int) < ad + (b.size : Int) := by rw [← hlb]; exact a2
    have hr := hrest j (by omega) c1'
    repeat first|apply w6|apply wa|apply w5
    refine aw_prot [] (allc0 _) ?_
    refine aw_plan mixed (.take 0 (.take 1 (.take 2 (.take 3 (.take 4 (.take 5 (.take 6 (.take 7 (.take 8 (.take 9 (.take 10 (.take 11 (.take 12 (.take 13 (.take 14 (.take 15 (.take 16 (.take 17 (.take 18 (.take 19 (.take 20 (.take 21 (.take 22 (.take 23 (.take 24 (.take 25 (.take 26 (.take 27 .done)))))))))))))))))))))))))))) (by kernel_rfl) ?_
    by_cases dj : j < d.size
    · rw [if_pos dj] at hr
      obtain ⟨ch, hch⟩ : ∃ ch, (byL d)[j]? = some ch := ⟨_, List.getElem?_eq_getElem (by rw [byL_len]; exact dj)⟩
      rw [hch] at hr
      have hgo : (encBytes (ofL o))[(j : Int).toNat]? = some [.sc (.int .u8 ch.toNat)] := by rw [Int.toNat_natCast, encB_get, byL_ofL, hr]; rfl
      have hgd : (encBytes d)[(j : Int).toNat]? = some [.sc (.int .u8 ch.toNat)] := by rw [Int.toNat_natCast, encB_get, hch]; rfl
      repeat (apply y1;apply r0;apply r0)
      refine d_split rfl rfl rfl (fun zq1 => ?_) (fun zq1 => ?_)<;>first|replace zq1:=of_decide_eq_true zq1|replace zq1:=of_decide_eq_false zq1
      case refine_2 => exact absurd (show (j : Int) < (((encBytes d).length : Nat) : Int) by rw [hld]; omega) zq1
      repeat (apply take1_ok;apply r0)
      refine d_index rfl rfl rfl rfl rfl rfl (by omega) hgo rfl ?_
      repeat first|(apply take1_ok;apply r0)|(apply y3;apply r0;apply r0)
      refine d_index rfl rfl rfl rfl rfl rfl (by omega) hgd rfl ?_
      repeat first|(apply y1;apply r0;apply r0)|(apply take1_ok;apply r0)|(apply y3;apply r0;apply r0)
      refine d_split rfl rfl rfl (fun zq2 => ?_) (fun zq2 => ?_)<;>first|replace zq2:=not_t zq2|replace zq2:=not_f zq2
      case refine_1 => exact absurd rfl zq2
      repeat (apply take1_ok;apply r0)
      refine d_split rfl rfl rfl (fun zq3 => ?_) (fun zq3 => ?_)<;>first|replace zq3:=of_decide_eq_true zq3|replace zq3:=of_decide_eq_false zq3
      case refine_1 => exact absurd zq3 (by rw [hld]; omega)
      repeat first|(apply y1;apply r0;apply r0)|apply y0|(apply take1_ok;apply r0)
      refine prot_done ?_
      repeat first|(apply gO;first|(apply x1;apply r0;apply r0)|apply w4|(apply x6;apply r0;omega))|(apply gW;first|apply w7|(apply w9;apply r0)|apply wa)|apply w5|apply wg
      exact ⟨j + 1, by omega, by omega, (by repeat (first | exact Fr.sub_nil _ | refine Fr.sub_cons rfl ?_)), s0⟩
    · rw [if_neg dj] at hr
      have hgo : (encBytes (ofL o))[(j : Int).toNat]? = some [.sc (.int .u8 0)] := by rw [Int.toNat_natCast, encB_get, byL_ofL, hr]; rfl
      repeat (apply y1;apply r0;apply r0)
      refine d_split rfl rfl rfl (fun zq1 => ?_) (fun zq1 => ?_)<;>first|replace zq1:=of_decide_eq_true zq1|replace zq1:=of_decide_eq_false zq1
      case refine_1 => exact absurd zq1 (by rw [hld]; omega)
      repeat first|(apply y1;apply r0;apply r0)|(apply take1_ok;apply r0)
      refine d_split rfl rfl rfl (fun zq3 => ?_) (fun zq3 => ?_)<;>first|replace zq3:=of_decide_eq_true zq3|replace zq3:=of_decide_eq_false zq3
      case refine_2 => exact absurd (show (((encBytes d).length : Nat) : Int) ≤ (j : Int) by rw [hld]; omega) zq3
      repeat (apply take1_ok;apply r0)
      refine d_index rfl rfl rfl rfl rfl rfl (by omega) hgo rfl ?_
      repeat first|(apply y1;apply r0;apply r0)|apply y0|(apply take1_ok;apply r0)|(apply y3;apply r0;apply r0)
      refine prot_done ?_
      repeat first|(apply gO;first|(apply x1;apply r0;apply r0)|apply w4|(apply x6;apply r0;omega))|(apply gW;first|apply w7|(apply w9;apply r0)|apply wa)|apply w5|apply wg
      exact ⟨j + 1, by omega, by omega, (by repeat (first | exact Fr.sub_nil _ | refine Fr.sub_cons rfl ?_)), s0⟩
  have hr := hrest j (by omega) c1'
  repeat first|(apply x1;apply r0;apply r0)|apply w4|(apply w3;apply r0;apply r0)|apply w6|(apply w9;apply r0)|apply wa|apply w5
  refine aw_prot [] (allc0 _) ?_
  refine aw_plan mixed (.take 0 (.take 1 (.take 2 (.take 3 (.take 4 (.take 5 (.take 6 (.take 7 (.take 8 (.take 9 (.take 10 (.take 11 (.take 12 (.take 13 (.take 14 (.take 15 (.take 16 (.take 17 (.take 18 (.take 19 (.take 20 (.take 21 (.take 22 (.take 23 (.take 24 (.take 25 (.take 26 (.take 27 .done)))))))))))))))))))))))))))) (by kernel_rfl) ?_
  by_cases dj : j < d.size
  · rw [if_pos dj] at hr
    obtain ⟨ch, hch⟩ : ∃ ch, (byL d)[j]? = some ch := ⟨_, List.getElem?_eq_getElem (by rw [byL_len]; exact dj)⟩
    rw [hch] at hr
    have hgo : (encBytes (ofL o))[(j : Int).toNat]? = some [.sc (.int .u8 ch.toNat)] := by rw [Int.toNat_natCast, encB_get, byL_ofL, hr]; rfl
    have hgd : (encBytes d)[(j : Int).toNat]? = some [.sc (.int .u8 ch.toNat)] := by rw [Int.toNat_natCast, encB_get, hch]; rfl
    repeat (apply y1;apply r0;apply r0)
    refine d_split rfl rfl rfl (fun zq1 => ?_) (fun zq1 => ?_)<;>first|replace zq1:=of_decide_eq_true zq1|replace zq1:=of_decide_eq_false zq1
    case refine_2 => exact absurd (show (j : Int) < (((encBytes d).length : Nat) : Int) by rw [hld]; omega) zq1
    repeat (apply take1_ok;apply r0)
    refine d_index rfl rfl rfl rfl rfl rfl (by omega) hgo rfl ?_
    repeat first|(apply take1_ok;apply r0)|(apply y3;apply r0;apply r0)
    refine d_index rfl rfl rfl rfl rfl rfl (by omega) hgd rfl ?_
    repeat first|(apply y1;apply r0;apply r0)|(apply take1_ok;apply r0)|(apply y3;apply r0;apply r0)
    refine d_split rfl rfl rfl (fun zq2 => ?_) (fun zq2 => ?_)<;>first|replace zq2:=not_t zq2|replace zq2:=not_f zq2
    case refine_1 => exact absurd rfl zq2
    repeat (apply take1_ok;apply r0)
    refine d_split rfl rfl rfl (fun zq3 => ?_) (fun zq3 => ?_)<;>first|replace zq3:=of_decide_eq_true zq3|replace zq3:=of_decide_eq_false zq3
    case refine_1 => exact absurd zq3 (by rw [hld]; omega)
    repeat first|(apply y1;apply r0;apply r0)|apply y0|(apply take1_ok;apply r0)
    refine prot_done ?_
    repeat first|(apply gO;first|(apply x1;apply r0;apply r0)|apply w4|(apply x6;apply r0;omega))|(apply gW;first|apply w7|(apply w9;apply r0)|apply wa)|apply w5|apply wg
    exact ⟨j + 1, by omega, by omega, (by repeat (first | exact Fr.sub_nil _ | refine Fr.sub_cons rfl ?_)), s0⟩
  · rw [if_neg dj] at hr
    have hgo : (encBytes (ofL o))[(j : Int).toNat]? = some [.sc (.int .u8 0)] := by rw [Int.toNat_natCast, encB_get, byL_ofL, hr]; rfl
    repeat (apply y1;apply r0;apply r0)
    refine d_split rfl rfl rfl (fun zq1 => ?_) (fun zq1 => ?_)<;>first|replace zq1:=of_decide_eq_true zq1|replace zq1:=of_decide_eq_false zq1
    case refine_1 => exact absurd zq1 (by rw [hld]; omega)
    repeat first|(apply y1;apply r0;apply r0)|(apply take1_ok;apply r0)
    refine d_split rfl rfl rfl (fun zq3 => ?_) (fun zq3 => ?_)<;>first|replace zq3:=of_decide_eq_true zq3|replace zq3:=of_decide_eq_false zq3
    case refine_2 => exact absurd (show (((encBytes d).length : Nat) : Int) ≤ (j : Int) by rw [hld]; omega) zq3
    repeat (apply take1_ok;apply r0)
    refine d_index rfl rfl rfl rfl rfl rfl (by omega) hgo rfl ?_
    repeat first|(apply y1;apply r0;apply r0)|apply y0|(apply take1_ok;apply r0)|(apply y3;apply r0;apply r0)
    refine prot_done ?_
    repeat first|(apply gO;first|(apply x1;apply r0;apply r0)|apply w4|(apply x6;apply r0;omega))|(apply gW;first|apply w7|(apply w9;apply r0)|apply wa)|apply w5|apply wg
    exact ⟨j + 1, by omega, by omega, (by repeat (first | exact Fr.sub_nil _ | refine Fr.sub_cons rfl ?_)), s0⟩
end Abs
end Go.Proofs.Ytpifnlodilcgkaa
