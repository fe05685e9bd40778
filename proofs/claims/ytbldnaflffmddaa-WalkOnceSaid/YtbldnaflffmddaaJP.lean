import Derived.Test.YtbldnaflffmddaaJO
import Derived.Test.YtbldnaflffmddaaJM
set_option linter.unusedVariables false
namespace Go.Proofs.Ytbldnaflffmddaa
namespace Abs
set_option maxRecDepth 10000

/-! ### WalkOnce: plain law -/
def encUW (U : List Bool) : List AVal := U.map (fun b => .b b)
theorem encUW_get {U : List Bool} {i : Nat} {b : Bool} (h : U[i]? = some b) : (encUW U)[i]? = some (.b b) := by simp [encUW, h]
theorem encUW_set (U : List Bool) (i : Nat) (b : Bool) : (encUW U).set i (.b b) = encUW (U.set i b) := by simp [encUW, List.map_set]
theorem encUW_len (U : List Bool) : (encUW U).length = U.length := by simp [encUW]
theorem rd_namap {H : AHeap} {b m : Nat} {cs : List AVal} {l : List (Value × AVal)} (h : Rd H b cs) (hm : H m = some (.amap l)) : b ≠ m := fun e => by
  subst e
  rcases h with h | h <;> (rw [hm] at h; cases h)
structure Seen (U : List Bool) (ks : List Int) : Prop where
  len : U.length = 256
  all : ∀ n : Nat, n < 256 → U[n]? = some (ks.contains (n : Int))
theorem seen_new : Seen (List.replicate 256 false) [] := ⟨by rw [List.length_replicate], fun n h => by
  rw [List.getElem?_replicate, if_pos h]; rfl⟩
theorem setIn_contains (ks : List Int) (q n : Int) : (setIn ks q).contains n = (ks.contains n || decide (n = q)) := by
  unfold setIn
  split
  · rename_i h
    by_cases e : n = q
    · subst e; rw [h, Bool.true_or]
    · rw [decide_eq_false e, Bool.or_false]
  · rw [List.contains_eq_any_beq, List.contains_eq_any_beq, List.any_append]
    congr 1
    simp only [List.any_cons, List.any_nil, Bool.or_false]
    by_cases e : n = q
    · subst e; simp
    · rw [decide_eq_false e]; simpa using e
theorem Seen.set {U : List Bool} {ks : List Int} (h : Seen U ks) {m : Nat} (hm : m < 256) : Seen (U.set m true) (setIn ks m) := ⟨by rw [List.length_set]; exact h.len, fun n hn => by
  rw [setIn_contains, List.getElem?_set]
  split
  · rename_i e
    subst e
    rw [if_pos (by rw [h.len]; exact hm), decide_eq_true rfl, Bool.or_true]
  · rename_i e
    rw [h.all n hn, decide_eq_false (by omega), Bool.or_false]⟩
end Abs
end Go.Proofs.Ytbldnaflffmddaa

set_option linter.unusedVariables false
namespace Go.Proofs.Ytbldnaflffmddaa
namespace Abs
set_option linter.unusedSimpArgs false
set_option maxRecDepth 10000
set_option maxHeartbeats 2000000
attribute [local irreducible] AOps AW AP ACalls thenQ inBlk noGoto

/-! ### WalkOnce -/
theorem walkOnce_c {ns kd : ByteArray} (hnl : ns.size ≤ 9223372036854775807) (hkl : kd.size ≤ 9223372036854775807) {H : AHeap} {K : AVal → AHeap → Prop} (hK : K (.b true) H) :
    ACalls Try.prog 6 [.sl (encBytes ns) .no, .sl (encBytes kd) .no] H K := by
  refine acalls_body Try.func6 rfl rfl rfl ?_
  have ln := encBytes_len ns
  have lk := encBytes_len kd
  repeat first|(apply x1;apply r0;apply r0)|(apply x9;apply r0)|apply w4|apply w6|apply w7|apply w5
  refine awake20_c ?_
  repeat first|(apply x1;apply r0;apply r0)|apply w4|apply w6|apply w7|(apply w9;apply r0)|apply wa|apply w5
  refine s_gsplit rfl rfl (fun c1 => ?_) (fun c1 => ?_)<;>first|replace c1:=of_decide_eq_true c1|replace c1:=of_decide_eq_false c1
  · repeat first|(apply gO;first|(apply x1;apply r0;apply r0)|apply w4|(apply w3;apply r0;apply r0))|(apply gW;first|apply w6|apply w7|(apply w8;apply r0)|apply wd)|apply w5|apply we
    exact rt1 (H' := H) rfl rfl (.refl _) s0 hK
  repeat first|(apply x1;apply r0;apply r0)|(apply x5;apply r0)
  refine s_gsplit rfl rfl (fun c2 => ?_) (fun c2 => ?_)<;>first|replace c2:=of_decide_eq_true c2|replace c2:=of_decide_eq_false c2
  · repeat first|(apply gO;first|(apply x1;apply r0;apply r0)|apply w4|(apply w3;apply r0;apply r0))|(apply gW;first|apply w6|apply w7|(apply w8;apply r0)|apply wd)|apply w5|apply we
    exact rt1 (H' := H) rfl rfl (.refl _) s0 hK
  repeat first|(apply x1;apply r0;apply r0)|(apply x5;apply r0)|apply w4|apply w5
  refine aw_cond rfl (fun c3 => ?_) (fun c3 => ?_)<;>first|replace c3:=of_decide_eq_true c3|replace c3:=of_decide_eq_false c3
  · repeat first|(apply x1;apply r0;apply r0)|apply w4|apply w6|apply w7|apply wd|apply w5|apply we
    exact rt1 (H' := H) rfl rfl (.refl _) s0 hK
  have hkp : 0 < kd.size := by omega
  have hk60 : kd.size ≤ 60 := by omega
  have hn60 : ns.size ≤ 60 := by omega
  clear c1 c2 c3
  repeat first|(apply x9;apply r0)|apply w6|apply w7|apply wa|apply w5
  refine wnew_c (how := 76) (deep := true) (l := []) (by decide) (fun X bw bd bh bm hox hsx hbw hbm nmw ndm nhm hmm hw => ?_)
  repeat first|(apply x1;apply r0;apply r0)|(apply x9;apply r0)|apply w4|apply w6|apply w7|apply w5
  refine wnew_c (how := 76) (deep := false) (l := []) (by decide) (fun X2 bv be bi bk hox2 hsx2 hbv hbk nkv nek nik hkk hv => ?_)
  replace hw := hw.sub hox2
  have hmm2 : X2 bm = some (.amap (encSet [])) := (hox2 bm (by rw [hmm]; simp)).trans hmm
  have hkk2 : X2 bk = some (.amap (encSet [])) := hkk
  have nmk : bm ≠ bk := fun e => by rw [e] at hmm; rw [hbk] at hmm; cases hmm
  have nmv : bm ≠ bv := fun e => by rw [e] at hmm; rw [hbv] at hmm; cases hmm
  have fbm : H bm = none := hbm
  have hs2 : H.sub X2 := AHeap.sub_trans hsx hsx2
  repeat first|(apply x1;apply r0;apply r0)|apply w4|apply w6|apply w7|apply w5
  refine s_make tk rfl rfl rfl rfl rfl rfl (by decide) (by decide) (by decide) (fun bu hbu => ?_)
  have nbm : bu ≠ bm := fun e => by rw [e] at hbu; rw [hbu] at hmm2; cases hmm2
  have nbk : bu ≠ bk := fun e => by rw [e] at hbu; rw [hbu] at hkk2; cases hkk2
  have fbu : H bu = none := sub_none hs2 hbu
  have fbm : H bm = none := hbm
  have fbw : H bw = none := hbw
  replace hw := hw.other hbu (.cells (rep (256 : Int).toNat [.b false]))
  replace hv := hv.other hbu (.cells (rep (256 : Int).toNat [.b false]))
  have hU0 : rep (256 : Int).toNat [AVal.b false] = encUW (List.replicate 256 false) := by kernel_rfl
  rw [hU0] at hw hv ⊢
  have hm0 : (X2.put bu (.cells (encUW (List.replicate 256 false)))) bm = some (.amap (encSet [])) := by rw [put_ne (Ne.symm nbm)]; exact hmm2
  have hu0 : (X2.put bu (.cells (encUW (List.replicate 256 false)))) bu = some (.cells (encUW (List.replicate 256 false))) := put_same _ _ _
  have hs0 : H.sub (X2.put bu (.cells (encUW (List.replicate 256 false)))) := AHeap.sub_put hs2 _ fbu
  generalize X2.put bu _ = X3 at hw hv hm0 hu0 hs0 ⊢
  have nmw2 : bm ≠ bw := nmw
  have nuw : bu ≠ bw := fun e => by have := hw.cells; rw [← e, hu0] at this; have h2 := congrArg (fun o : Option HObj => match o with | some (.cells cs) => cs.length | _ => 0) this; simp [encUW, encWk, encWkO] at h2
  have nuv : bu ≠ bv := fun e => by have := hv.cells; rw [← e, hu0] at this; have h2 := congrArg (fun o : Option HObj => match o with | some (.cells cs) => cs.length | _ => 0) this; simp [encUW, encWk, encWkO] at h2
  repeat first|(apply x1;apply r0;apply r0)|apply w4|apply w6|apply w7|apply wb|apply w5
  refine aw_loop (fun s : Nat × List Int × List Bool × AHeap => s.1 ≤ ns.size ∧ Seen s.2.2.1 s.2.1 ∧ WkAt s.2.2.2 bw bd bh bm (newWk 76 true []) ∧ WkAt s.2.2.2 bv be bi bk (newWk 76 false []) ∧ s.2.2.2 bm = some (.amap (encSet s.2.1)) ∧ s.2.2.2 bu = some (.cells (encUW s.2.2.1)) ∧ H.sub s.2.2.2) (fun s => [(0, .sl (encBytes ns) .no), (1, .sl (encBytes kd) .no), (6, .ptr bw 0), (7, .ptr bv 0), (8, .row bu 0 256 256), (9, .i s.1)]) (fun s => s.2.2.2) (fun s => ns.size - s.1) (0, [], List.replicate 256 false, X3) ⟨Nat.zero_le _, seen_new, hw, hv, hm0, hu0, hs0⟩ (by repeat (first | exact Fr.sub_nil _ | refine Fr.sub_cons rfl ?_)) (AHeap.sub_refl _) ?_
  clear hw hv hm0 hu0 hs0
  rintro ⟨k, ks, U, Y⟩ ⟨hk, hU, hw, hv, hm, hu, hsy⟩
  dsimp only at hk hU hw hv hm hu hsy ⊢
  repeat first|(apply x1;apply r0;apply r0)|apply w4|apply w6|apply w7|apply w5
  refine aw_cond rfl (fun c4 => ?_) (fun c4 => ?_)<;>first|replace c4:=of_decide_eq_true c4|replace c4:=of_decide_eq_false c4
  case refine_2 =>
    repeat first|(apply gO;first|(apply x1;apply r0;apply r0)|apply w4)|(apply gW;first|apply w6|apply w7|apply wd|apply wc)|apply w5|apply wf|apply wh
    exact rt1 (H' := H) rfl rfl (.refl _) (by repeat assumption) hK
  have hkn : k < ns.size := by omega
  have hget := bytes_get ns k hkn
  have hv9 := (ns.get! k).toNat_lt
  generalize (ns.get! k).toNat = m at hget hv9
  have hm1 := Nat.mod_lt k hkp
  have hget2 := bytes_get kd (k % kd.size) hm1
  have hv8 := (kd.get! (k % kd.size)).toNat_lt
  generalize (kd.get! (k % kd.size)).toNat = m2 at hget2 hv8
  have hcast : ((k : Int).tmod (((encBytes kd).length : Nat) : Int)) = ((k % kd.size : Nat) : Int) := by rw [lk, Int.tmod_eq_emod_of_nonneg (by omega)]; rfl
  have hcast2 : ((m2 : Nat) : Int).tmod 3 = ((m2 % 3 : Nat) : Int) := by rw [Int.tmod_eq_emod_of_nonneg (by omega)]; rfl
  have hm3 := Nat.mod_lt m2 (show 0 < 3 by decide)
  apply wa; apply w5; apply w6; apply wb; apply w6
  refine aw_cutS (fun F' H' => ∃ b10, Y b10 = none ∧ Fr.sub [(0, .sl (encBytes ns) .no), (1, .sl (encBytes kd) .no), (6, .ptr bw 0), (7, .ptr bv 0), (8, .row bu 0 256 256), (9, .i k), (10, .ptr b10 0)] F' ∧ (Y.put b10 (.cells (encStt m (((m2 % 3 : Nat) : Int) + 1) 0 0 0 0 0))).sub H') ?_ ?_
  · skip
    refine aw_plan mixed (.take 0 (.take 1 (.take 2 (.take 3 (.take 4 (.take 5 (.take 6 (.take 7 (.take 8 (.take 9 (.take 10 (.take 11 (.take 12 (.take 13 (.take 14 (.two 15 16 (.one 16 (.one 17 .done)) (.one 15 (.one 17 .done)))))))))))))))))) (by kernel_rfl) ?_
    repeat (apply y1;apply r0;apply r0)
    refine d_index rfl rfl rfl rfl rfl rfl (by omega) hget rfl ?_
    repeat (apply y3;apply r0;apply r0)
    refine d_stab rfl rfl rfl (pures_conv (u := ()) (r := m) tk rfl rfl rfl (wrap_id (by omega))).stab ?_
    repeat (apply y1;apply r0;apply r0)
    refine d_stab rfl rfl rfl (pures_rem (r := ((k % kd.size : Nat) : Int)) rfl rfl (by omega) hcast).stab ?_
    skip
    refine d_index rfl rfl rfl rfl rfl rfl (by omega) hget2 rfl ?_
    repeat (apply y3;apply r0;apply r0)
    refine d_stab rfl rfl rfl (pures_rem (r := ((m2 % 3 : Nat) : Int)) rfl rfl (by decide) hcast2).stab ?_
    skip
    refine d_stab rfl rfl rfl (pures_conv (u := ()) (r := ((m2 % 3 : Nat) : Int)) tk rfl rfl rfl (wrap_id (by omega))).stab ?_
    repeat (apply y6;apply r0;apply r0;omega)
    refine e_two rfl rfl ?_ ?_
    · repeat first|(apply xbd;apply r0)|apply w4|(apply y4;apply r0)
      refine s_alloc tk rfl rfl rfl (fun b10 hb10 => ?_); have hb := hb10; (try simp only [put_none_iff, prot_none_iff] at hb); (repeat obtain ⟨_, _, hb⟩ := hb)
      repeat first|(apply xst;apply r0;(apply ps);apply r0)|apply w4|apply y0|(apply y4;apply r0)|apply w5
      skip
      rw [put_put]
      refine ⟨b10, hb10, (by repeat (first | exact Fr.sub_nil _ | refine Fr.sub_cons rfl ?_)), ?_⟩
      exact AHeap.sub_refl _
    · skip
      refine s_alloc tk rfl rfl rfl (fun b10 hb10 => ?_); have hb := hb10; (try simp only [put_none_iff, prot_none_iff] at hb); (repeat obtain ⟨_, _, hb⟩ := hb)
      repeat first|(apply xst;apply r0;(apply ps);apply r0)|(apply xbd;apply r0)|apply w4|apply y0|(apply y4;apply r0)|apply w5
      skip
      rw [put_put]
      refine ⟨b10, hb10, (by repeat (first | exact Fr.sub_nil _ | refine Fr.sub_cons rfl ?_)), ?_⟩
      exact AHeap.sub_refl _
  rintro F' H' ⟨b10, hb10, hF, hH⟩
  refine AW_sub ?_ hF hH
  clear hF hH hget hget2 hcast hcast2
  generalize hkq : (((m2 % 3 : Nat) : Int) + 1) = kq
  have nmb : bm ≠ b10 := get_ne hm hb10
  have nub : bu ≠ b10 := get_ne hu hb10
  replace hw := hw.other hb10 (.cells (encStt m kq 0 0 0 0 0))
  replace hv := hv.other hb10 (.cells (encStt m kq 0 0 0 0 0))
  have hm' : (Y.put b10 (.cells (encStt m kq 0 0 0 0 0))) bm = some (.amap (encSet ks)) := by rw [put_ne nmb]; exact hm
  have hu' : (Y.put b10 (.cells (encStt m kq 0 0 0 0 0))) bu = some (.cells (encUW U)) := by rw [put_ne nub]; exact hu
  have h10 : (Y.put b10 (.cells (encStt m kq 0 0 0 0 0))) b10 = some (.cells [.i m, .i kq, .i 0, .i 0, .i 0, .i 0, .i 0]) := put_same _ _ _
  have hsy' : H.sub (Y.put b10 (.cells (encStt m kq 0 0 0 0 0))) := AHeap.sub_put hsy _ (sub_none hsy hb10)
  clear hm hu hsy
  generalize Y.put b10 _ = Z at hw hv hm' hu' h10 hsy' ⊢
  repeat first|(apply x1;apply r0;apply r0)|(apply x2;apply r0;(with_reducible repeat exact q1 ‹_›);apply r0)|apply w6|apply w7
  refine s_gsplit rfl rfl (fun c5 => ?_) (fun c5 => ?_)<;>first|replace c5:=not_t c5|replace c5:=not_f c5
  · have c5' : ¬ kq = 2 := by simpa using c5
    repeat first|(apply gO;first|(apply x1;apply r0;apply r0)|(apply x2;apply r0;(with_reducible repeat exact q1 ‹_›);apply r0)|(apply x9;apply r0)|apply w4|(apply w3;apply r0;apply r0))|(apply gW;first|apply w6|apply w7)|apply w5
    refine see_c hw (fun _ => hm') nmw (fun _ => ?_) (fun _ h => absurd h c5')
    repeat first|(apply x1;apply r0;apply r0)|(apply x2;apply r0;(with_reducible repeat exact q1 ‹_›);apply r0)|(apply x5;apply r0)|(apply x9;apply r0)
    refine see_c (ks := []) hv (fun h => by cases h) nkv (fun _ => ?_) (fun h => by cases h)
    repeat first|(apply gO;first|(apply x1;apply r0;apply r0)|(apply x2;apply r0;(with_reducible repeat exact q1 ‹_›);apply r0)|(apply x5;apply r0)|apply w4)|(apply gW;first|apply w6|apply w7|(apply w9;apply r0)|apply wa)|apply w5
    refine aw_cond rfl (fun c6 => ?_) (fun c6 => ?_)<;>first|replace c6:=of_decide_eq_true c6|replace c6:=of_decide_eq_false c6
    · exact absurd c6 c5'
    repeat first|(apply x1;apply r0;apply r0)|apply w4|(apply x6;apply r0;omega)|apply w7|apply wa|apply w5|apply wg
    exact ⟨(k + 1, ks, U, Z), ⟨hkn, hU, hw, hv, hm', hu', hsy'⟩, by dsimp only; omega, (by repeat (first | exact Fr.sub_nil _ | refine Fr.sub_cons rfl ?_)), AHeap.sub_refl _⟩
  have c5' : kq = 2 := by simpa using c5
  have hgu : (encUW U)[0 + (m : Int).toNat * 1]? = some (.b (ks.contains (m : Int))) := by rw [show 0 + (m : Int).toNat * 1 = m by omega]; exact encUW_get (hU.all m hv9)
  repeat first|(apply x1;apply r0;apply r0)|(apply x2;apply r0;(with_reducible repeat exact q1 ‹_›);apply r0)|(apply x5;apply r0)
  refine s_indexr tk rfl rfl rfl rfl (by omega) (by omega) ?_
  repeat (apply x5;apply r0)
  refine s_load tk rfl rfl (.inl hu') rfl hgu ?_
  repeat first|(apply gO;first|(apply x1;apply r0;apply r0)|(apply x2;apply r0;(with_reducible repeat exact q1 ‹_›);apply r0)|(apply x5;apply r0)|(apply x9;apply r0)|apply w4)|(apply gW;first|apply w6|apply w7)|apply w5
  refine see_c hw (fun _ => hm') nmw (fun h => ?_) (fun _ _ => ?_)
  · rcases h with h | h
    · cases h
    · exact absurd c5' h
  have nmb2 : bm ≠ b10 := nmb
  have nmu : bm ≠ bu := Ne.symm nbm
  have hm2 : (Z.put bm (.amap (encSet (setIn ks m)))) bm = some (.amap (encSet (setIn ks m))) := put_same _ _ _
  have hu2 : (Z.put bm (.amap (encSet (setIn ks m)))) bu = some (.cells (encUW U)) := by rw [put_ne nbm]; exact hu'
  have h102 : (Z.put bm (.amap (encSet (setIn ks m)))) b10 = some (.cells [.i m, .i kq, .i 0, .i 0, .i 0, .i 0, .i 0]) := by rw [put_ne (Ne.symm nmb)]; exact h10
  have hsy2 : H.sub (Z.put bm (.amap (encSet (setIn ks m)))) := AHeap.sub_put hsy' _ fbm
  replace hw := hw.put2 nmw (Ne.symm ndm) (Ne.symm nhm) (.amap (encSet (setIn ks m)))
  replace hv := hv.put2 nmv (Ne.symm (rd_namap hv.deep hm')) (Ne.symm (rd_namap hv.how hm')) (.amap (encSet (setIn ks m)))
  generalize Z.put bm _ = W at hw hv hm2 hu2 h102 hsy2 ⊢
  repeat (apply x1;apply r0;apply r0)
  refine s_gsplit rfl rfl (fun c7 => ?_) (fun c7 => ?_)<;>first|replace c7:=not_t c7|replace c7:=not_f c7
  · exact absurd rfl c7
  repeat first|(apply x1;apply r0;apply r0)|(apply x2;apply r0;(with_reducible repeat exact q1 ‹_›);apply r0)|(apply x5;apply r0)|(apply x9;apply r0)
  refine see_c (ks := []) hv (fun h => by cases h) nkv (fun _ => ?_) (fun h => by cases h)
  repeat first|(apply gO;first|(apply x1;apply r0;apply r0)|(apply x2;apply r0;(with_reducible repeat exact q1 ‹_›);apply r0)|(apply x5;apply r0)|apply w4)|(apply gW;first|apply w6|apply w7|(apply w9;apply r0)|apply wa)|apply w5
  refine aw_cond rfl (fun c8 => ?_) (fun c8 => ?_)<;>first|replace c8:=of_decide_eq_true c8|replace c8:=of_decide_eq_false c8
  case refine_2 => exact absurd c5' c8
  repeat first|(apply x1;apply r0;apply r0)|(apply x2;apply r0;(with_reducible repeat exact q1 ‹_›);apply r0)|apply w7
  refine s_indexr tk rfl rfl rfl rfl (by omega) (by omega) ?_
  skip
  refine s_store tk rfl rfl hu2 rfl (by rw [encUW_len, hU.len]; omega) rfl ?_
  rw [encUW_set, show 0 + (m : Int).toNat * 1 = m by omega]
  have nuh : ∀ {x : Nat} {c : AVal}, Rd W x [c] → bu ≠ x := fun {x c} h e => by
    subst e
    rcases h with h | h
    · rw [hu2] at h
      have h2 := congrArg (fun o : Option HObj => match o with | some (.cells cs) => cs.length | _ => 0) h
      have h3 := hU.len
      simp [encUW] at h2
      omega
    · rw [hu2] at h; cases h
  repeat first|(apply x1;apply r0;apply r0)|apply w4|(apply x6;apply r0;omega)|apply w7|apply w5|apply wg
  exact ⟨(k + 1, setIn ks m, U.set m true, W.put bu (.cells (encUW (U.set m true)))), ⟨hkn, hU.set hv9, hw.put2 nuw (nuh hw.deep) (nuh hw.how) _, hv.put2 nuv (nuh hv.deep) (nuh hv.how) _, by dsimp only; rw [put_ne nmu]; exact hm2, put_same _ _ _, AHeap.sub_put hsy2 _ fbu⟩, by dsimp only; omega, (by repeat (first | exact Fr.sub_nil _ | refine Fr.sub_cons rfl ?_)), AHeap.sub_refl _⟩
end Abs
end Go.Proofs.Ytbldnaflffmddaa
