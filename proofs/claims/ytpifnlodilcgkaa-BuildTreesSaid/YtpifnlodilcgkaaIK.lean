import Derived.Test.YtpifnlodilcgkaaIP
import Derived.Test.YtpifnlodilcgkaaL10
import Derived.Test.YtpifnlodilcgkaaIM
import Derived.Test.YtpifnlodilcgkaaXH
set_option linter.unusedVariables false
namespace Go.Proofs.Ytpifnlodilcgkaa
namespace Abs
set_option linter.unusedSimpArgs false
set_option maxRecDepth 10000
set_option maxHeartbeats 2000000
attribute [local irreducible] AOps AW AP ACalls thenQ inBlk noGoto

/-! ### the document's chapter 10: Build, and the tree of a table -/
theorem add_room (T : Tab) (n : Node) : (T.add n).1.room = T.room := by
  rcases add_cases T n with ⟨k, hf, hok, ha⟩ | ⟨hf, hok, ha⟩ | ⟨hok, ha⟩ <;> rw [ha] <;> rfl
theorem one_room (T : Tab) (r : Raw) : (r.one T).1.room = T.room := by
  have ht : (r.told T).1.room = T.room := by
    unfold Raw.told
    split
    · exact add_room T _
    · split
      · split <;> rfl
      · rfl
  unfold Raw.one
  split
  · split
    · exact ht
    · split
      · exact ht
      · rw [← ht]
        unfold Tab.putE
        split
        · split <;> rfl
        · rfl
  · rfl
theorem rbuild_c {room : Int} {l : List Raw} (hl : l.length ≤ 1000) (hf : ∀ r ∈ l, r.few) {o : Own} {H : AHeap} {K : AVal → AHeap → Prop}
    (h0 : (build room l).1 = none → K (.tup [.agg (encT []), .i (build room l).2.1, .i (build room l).2.2]) H)
    (h1 : ∀ T M, (build room l).1 = some T → Tells T M → M.length = T.room.toNat → K (.tup [.agg (encT M), .i (build room l).2.1, .i (build room l).2.2]) H) :
    ACalls Try.prog 25 [.i room, .sl (encRs l) o] H K := by
  refine acalls_body Try.func25 rfl rfl rfl ?_
  have ll := rs_len l
  repeat first|apply w6|apply w7
  refine s_alloc tk rfl rfl rfl (fun b4 hb4 => ?_); have hb := hb4; (try simp only [put_none_iff, prot_none_iff] at hb); (repeat obtain ⟨_, _, hb⟩ := hb)
  repeat first|(apply x1;apply r0;apply r0)|(apply xbd;apply r0)|apply w4|apply w6|apply w7|apply w5
  refine s_alloc tk rfl rfl rfl (fun b7 hb7 => ?_); have hb := hb7; (try simp only [put_none_iff, prot_none_iff] at hb); (repeat obtain ⟨_, _, hb⟩ := hb)
  repeat first|(apply x1;apply r0;apply r0)|(apply xst;apply r0;(apply ps);apply r0)|apply w4|apply w6|apply w7|apply w5
  refine s_gsplit rfl rfl (fun g => ?_) (fun g => ?_)
  · have hnil : l = [] := List.length_eq_zero_iff.1 (by have := of_decide_eq_true g; omega)
    subst hnil
    repeat first|(apply gO;first|(apply x1;apply r0;apply r0)|(apply x2;apply r0;(with_reducible repeat first|assumption|apply q0|apply ps|apply gp);apply r0)|(apply xst;apply r0;(with_reducible repeat first|assumption|apply q0|apply ps|apply gp);apply r0)|apply w4|(apply w3;apply r0;apply r0))|(apply gW;first|apply w6|apply w7|(apply w8;apply r0)|apply wd)|apply w5|apply we
    exact rt3c (H' := H) rfl rfl (by apply q0) rfl (by rfl) rfl rfl (by exact Wk.three (wk_agg rfl)) (by repeat first|exact s0|(apply su1;assumption)) (h0 rfl)
  have hpos : 0 < l.length := by have := of_decide_eq_false g; omega
  obtain ⟨r, l, rfl⟩ : ∃ r l', l = r :: l' := by
    cases l with
    | nil => simp at hpos
    | cons r l => exact ⟨r, l, rfl⟩
  have hget : (encRs (r :: l))[(0 : Int).toNat]? = some (encR r) := rfl
  repeat first|(apply x1;apply r0;apply r0)|(apply x5;apply r0)
  refine s_index tk rfl rfl rfl rfl (by decide) hget rfl ?_
  repeat first|(apply x1;apply r0;apply r0)|(apply x3;apply r0)|(apply x5;apply r0)
  refine s_gsplit rfl rfl (fun g1 => ?_) (fun g1 => ?_)<;>first|replace g1:=not_t g1|replace g1:=not_f g1
  case refine_1 => 
    have hB : build room (r :: l) = (none, 0, 22) := by
      rw [build_cons]
      rw [if_pos (.inl g1)]
    rw [hB] at h0
    repeat first|(apply gO;first|(apply x1;apply r0;apply r0)|(apply x2;apply r0;(with_reducible repeat first|assumption|apply q0|apply ps|apply gp);apply r0)|(apply xst;apply r0;(with_reducible repeat first|assumption|apply q0|apply ps|apply gp);apply r0)|apply w4|(apply w3;apply r0;apply r0))|(apply gW;first|apply w6|apply w7|(apply w8;apply r0)|apply wd)|apply w5|apply we
    exact rt3c (H' := H) rfl rfl (by apply q0) rfl (by rfl) rfl rfl (by exact Wk.three (wk_agg rfl)) (by repeat first|exact s0|(apply su1;assumption)) (h0 rfl)
  repeat first|(apply x1;apply r0;apply r0)|(apply x5;apply r0)
  refine s_index tk rfl rfl rfl rfl (by decide) hget rfl ?_
  repeat first|(apply x1;apply r0;apply r0)|(apply x3;apply r0)|(apply x5;apply r0)
  refine s_gsplit rfl rfl (fun g2 => ?_) (fun g2 => ?_)<;>first|replace g2:=not_t g2|replace g2:=not_f g2
  case refine_1 => 
    have hB : build room (r :: l) = (none, 0, 22) := by
      rw [build_cons]
      rw [if_pos (.inr (.inl g2))]
    rw [hB] at h0
    repeat first|(apply gO;first|(apply x1;apply r0;apply r0)|(apply x2;apply r0;(with_reducible repeat first|assumption|apply q0|apply ps|apply gp);apply r0)|(apply xst;apply r0;(with_reducible repeat first|assumption|apply q0|apply ps|apply gp);apply r0)|apply w4|(apply w3;apply r0;apply r0))|(apply gW;first|apply w6|apply w7|(apply w8;apply r0)|apply wd)|apply w5|apply we
    exact rt3c (H' := H) rfl rfl (by apply q0) rfl (by rfl) rfl rfl (by exact Wk.three (wk_agg rfl)) (by repeat first|exact s0|(apply su1;assumption)) (h0 rfl)
  repeat first|(apply x1;apply r0;apply r0)|(apply x5;apply r0)
  refine s_index tk rfl rfl rfl rfl (by decide) hget rfl ?_
  repeat first|(apply x1;apply r0;apply r0)|(apply x3;apply r0)|(apply x5;apply r0)|apply w4|apply w5
  refine aw_cond rfl (fun g3 => ?_) (fun g3 => ?_)<;>first|replace g3:=not_t g3|replace g3:=not_f g3
  · have hB : build room (r :: l) = (none, 0, 22) := by
      rw [build_cons]
      rw [if_pos (.inr (.inr g3))]
    rw [hB] at h0
    repeat first|(apply gO;first|(apply x1;apply r0;apply r0)|(apply x2;apply r0;(with_reducible repeat first|assumption|apply q0|apply ps|apply gp);apply r0)|(apply xst;apply r0;(with_reducible repeat first|assumption|apply q0|apply ps|apply gp);apply r0)|apply w4)|(apply gW;first|apply w6|apply w7|apply wd)|apply w5|apply we
    exact rt3c (H' := H) rfl rfl (by apply q0) rfl (by rfl) rfl rfl (by exact Wk.three (wk_agg rfl)) (by repeat first|exact s0|(apply su1;assumption)) (h0 rfl)
  have hB : build room (r :: l) = if ¬ ((Tab.new room).add r.made).2.2 = 0 then (none, 0, ((Tab.new room).add r.made).2.2) else buildFrom ((Tab.new room).add r.made).1 0 l := by
    rw [build_cons]
    rw [if_neg (by rintro (h | h | h) <;> contradiction)]
  rw [hB] at h0 h1
  have hl9 : l.length ≤ 999 := by simpa using hl
  have hrf := hf r List.mem_cons_self
  have hlf : ∀ x ∈ l, x.few := fun x hx => hf x (List.mem_cons_of_mem _ hx)
  have hroom1 := add_room (Tab.new room) r.made
  repeat first|apply w6|apply wa|apply w5
  generalize hX : AHeap.put _ b7 _ = X
  have x4' : X b4 = some (.cells [.sl [] .full]) := by rw [← hX]; exact (by apply get_eq;(focus with_reducible repeat first|assumption|apply ps|apply gp);rfl)
  have x7' : Rd X b7 [.sl [] .full] := by rw [← hX]; exact (by apply q0)
  have xs' : H.sub X := by rw [← hX]; exact (by repeat first|exact s0|(apply su1;assumption))
  clear hX
  refine aw_cutS (fun F' H' => ∃ b8 M, X b8 = none ∧ Tells ((Tab.new room).add r.made).1 M ∧ M.length = (Tab.new room).room.toNat ∧ Fr.sub [(1, .sl (encRs (r :: l)) o), (4, .ptr b4 0), (7, .ptr b7 0), (8, .ptr b8 0), (10, .i ((Tab.new room).add r.made).2.2)] F' ∧ (X.put b8 (.cells (encT M))).sub H') ?_ ?_
  · refine aw_plan mixed (.take 0 (.take 2 (.take 3 (.take 4 (.take 5 (.two 1 11 (.two 6 11 (.take 7 (.take 8 (.take 9 (.take 10 (.one 11 (.one 12 (.take 13 (.take 14 .done)))))))) (.one 6 (.take 7 (.take 8 (.take 9 (.take 10 (.one 12 (.take 13 (.take 14 .done))))))))) (.one 1 (.one 6 (.take 7 (.take 8 (.take 9 (.take 10 (.one 12 (.take 13 (.take 14 .done))))))))))))))) (by kernel_rfl) ?_
    repeat (apply y1;apply r0;apply r0)
    refine d_index rfl rfl rfl rfl rfl rfl (by decide) hget rfl ?_
    repeat first|(apply y1;apply r0;apply r0)|(apply y3;apply r0;apply r0)
    refine e_two rfl rfl ?_ ?_
    · repeat (apply x9;apply r0)
      refine rnew_c ?_
      repeat apply w4
      refine e_two rfl rfl ?_ ?_
      · repeat (apply x9;apply r0)
        refine radd2_c ⟨rel_new room, good_new room⟩ (by rw [List.length_replicate]; rfl) (n := r.made) (few_nlen hrf.made) (fun M hM hMl => ?_)
        repeat first|apply w4|(apply y1;apply r0;apply r0)|(apply y4;apply r0)
        refine s_alloc tk rfl rfl rfl (fun b8 hb8 => ?_); have hb := hb8; (try simp only [put_none_iff, prot_none_iff] at hb); (repeat obtain ⟨_, _, hb⟩ := hb)
        repeat first|(apply xst;apply r0;(apply ps);apply r0)|apply w4|(apply y1;apply r0;apply r0)|apply y0|(apply y4;apply r0)|apply w5
        (try simp only [put_put])
        skip
        exact ⟨b8, M, hb, hM, (hMl.trans (List.length_replicate ..)), (by repeat (first | exact Fr.sub_nil _ | refine Fr.sub_cons rfl ?_)), AHeap.sub_refl _⟩
      · skip
        refine s_alloc tk rfl rfl rfl (fun b8 hb8 => ?_); have hb := hb8; (try simp only [put_none_iff, prot_none_iff] at hb); (repeat obtain ⟨_, _, hb⟩ := hb)
        repeat first|(apply x9;apply r0)|apply w4|(apply y4;apply r0)
        refine radd2_c ⟨rel_new room, good_new room⟩ (by rw [List.length_replicate]; rfl) (n := r.made) (few_nlen hrf.made) (fun M hM hMl => ?_)
        repeat first|(apply xst;apply r0;(apply ps);apply r0)|apply w4|(apply y1;apply r0;apply r0)|apply y0|(apply y4;apply r0)|apply w5
        (try simp only [put_put])
        skip
        exact ⟨b8, M, hb, hM, (hMl.trans (List.length_replicate ..)), (by repeat (first | exact Fr.sub_nil _ | refine Fr.sub_cons rfl ?_)), AHeap.sub_refl _⟩
    · skip
      refine s_alloc tk rfl rfl rfl (fun b8 hb8 => ?_); have hb := hb8; (try simp only [put_none_iff, prot_none_iff] at hb); (repeat obtain ⟨_, _, hb⟩ := hb)
      repeat first|(apply x9;apply r0)|apply w4|(apply y4;apply r0)
      refine rnew_c ?_
      repeat first|(apply x9;apply r0)|apply w4|(apply y4;apply r0)
      refine radd2_c ⟨rel_new room, good_new room⟩ (by rw [List.length_replicate]; rfl) (n := r.made) (few_nlen hrf.made) (fun M hM hMl => ?_)
      repeat first|(apply xst;apply r0;(apply ps);apply r0)|apply w4|(apply y1;apply r0;apply r0)|apply y0|(apply y4;apply r0)|apply w5
      (try simp only [put_put])
      skip
      exact ⟨b8, M, hb, hM, (hMl.trans (List.length_replicate ..)), (by repeat (first | exact Fr.sub_nil _ | refine Fr.sub_cons rfl ?_)), AHeap.sub_refl _⟩
  rintro F' H' ⟨b8, M, hb8, hM, hMl, hF, hH⟩
  refine AW_sub ?_ hF hH
  clear hF hH
  generalize (Tab.new room).add r.made = q at hM h0 h1 hroom1 ⊢
  obtain ⟨T1, id, e⟩ := q
  dsimp only at hM h0 h1 hroom1 ⊢
  rw [← hroom1] at hMl
  have n48 : b4 ≠ b8 := get_ne x4' hb8
  have n78 : b7 ≠ b8 := rd_ne x7' hb8
  have n84 : b8 ≠ b4 := Ne.symm n48
  have n87 : b8 ≠ b7 := Ne.symm n78
  repeat first|(apply x1;apply r0;apply r0)|apply w4|apply w6|apply w7|apply w5
  refine aw_cond rfl (fun c => ?_) (fun c => ?_)<;>first|replace c:=not_t c|replace c:=not_f c
  · rw [if_pos c] at h0
    dsimp only at h0
    repeat first|(apply gO;first|(apply x1;apply r0;apply r0)|(apply x2;apply r0;(with_reducible repeat first|assumption|apply q3|apply gp);apply r0)|(apply xst;apply r0;(with_reducible repeat first|assumption|apply q3|apply gp);apply r0)|apply w4)|(apply gW;first|apply w6|apply w7|apply wd)|apply w5|apply we
    exact rt3c (H' := H) rfl rfl (by apply q0) rfl (by rfl) rfl rfl (by exact Wk.three (wk_agg rfl)) (by repeat first|assumption|(apply su1;assumption)|(apply su3;assumption;assumption)) (h0 rfl)
  rw [if_neg (fun q => q c)] at h0 h1
  repeat first|(apply x1;apply r0;apply r0)|apply w4|apply w6|apply w7|apply wa|apply wb|apply w5
  refine aw_loop (fun s : Nat × Tab × List Node => s.1 ≤ l.length ∧ Tells s.2.1 s.2.2 ∧ s.2.2.length = s.2.1.room.toNat ∧ buildFrom s.2.1 s.1 (l.drop s.1) = buildFrom T1 0 l) (fun s => [(1, .sl (encRs (r :: l)) o), (4, .ptr b4 0), (7, .ptr b7 0), (8, .ptr b8 0), (11, .i ((s.1 : Int) + 1))]) (fun s => X.put b8 (.cells (encT s.2.2))) (fun s => l.length - s.1) (0, T1, M) ⟨Nat.zero_le _, hM, hMl, rfl⟩ (by repeat (first | exact Fr.sub_nil _ | refine Fr.sub_cons rfl ?_)) (AHeap.sub_refl _) ?_
  clear hM hMl
  rintro ⟨k, T, M⟩ ⟨hk, hM, hMl, hbf⟩
  dsimp only at hk hM hMl hbf ⊢
  repeat first|(apply x1;apply r0;apply r0)|apply w4|apply w6|apply w7|apply w5
  refine aw_cond rfl (fun d => ?_) (fun d => ?_)<;>first|replace d:=of_decide_eq_true d|replace d:=of_decide_eq_false d
  · have hkl : k < l.length := by
      rw [ll, List.length_cons] at d
      omega
    have hgk : (encRs (r :: l))[((k : Int) + 1).toNat]? = some (encR l[k]) := by
      rw [show ((k : Int) + 1).toNat = k + 1 by omega]
      simp [encRs, hkl]
    have hfk := hlf _ (List.getElem_mem hkl)
    rw [List.drop_eq_getElem_cons hkl] at hbf
    rw [buildFrom_cons] at hbf
    generalize l[k] = x at hgk hfk hbf
    repeat first|apply w6|apply wa|apply wb|apply w5
    refine aw_plan mixed (.take 1 (.take 2 (.take 3 (.take 4 (.one 0 (.one 5 (.take 6 (.take 7 (.take 8 (.one 9 (.take 10 .done))))))))))) (by kernel_rfl) ?_
    repeat (apply y1;apply r0;apply r0)
    refine d_index rfl rfl rfl rfl rfl rfl (by omega) hgk rfl ?_
    repeat first|(apply x2;apply r0;(apply q0);apply r0)|(apply x9;apply r0)|apply w4|(apply y4;apply r0)|(apply y3;apply r0;apply r0)
    refine rone_c hM hMl hfk (fun M2 hM2 => ?_)
    have hrm := one_room T x
    generalize x.one T = q at hM2 hbf hrm ⊢
    obtain ⟨T2, e2⟩ := q
    dsimp only at hM2 hbf hrm ⊢
    repeat first|(apply gO;first|(apply x1;apply r0;apply r0)|(apply xst;apply r0;(apply ps);apply r0)|apply w4)|(apply gP;first|(apply y1;apply r0;apply r0)|apply y0|(apply y4;apply r0))|(apply gW;first|apply w6|apply w7)|apply w5
    rw [put_put]
    skip
    refine aw_cond rfl (fun f => ?_) (fun f => ?_)<;>first|replace f:=not_t f|replace f:=not_f f
    · rw [if_neg f] at hbf
      rw [← hbf] at h0
      dsimp only at h0
      repeat first|(apply gO;first|(apply x1;apply r0;apply r0)|(apply x2;apply r0;(with_reducible repeat first|assumption|apply q3|apply gp);apply r0)|(apply xst;apply r0;(with_reducible repeat first|assumption|apply q3|apply gp);apply r0)|apply w4)|(apply gW;first|apply w6|apply w7|apply wd)|apply w5|apply we|apply wj
      exact rt3c (H' := H) rfl rfl (by apply q0) rfl (by rfl) rfl rfl (by exact Wk.three (wk_agg rfl)) (by repeat first|assumption|(apply su1;assumption)|(apply su3;assumption;assumption)) (h0 rfl)
    · have f' : e2 = 0 := f
      rw [if_pos f'] at hbf
      obtain ⟨hM3, hl3⟩ := hM2 f'
      repeat first|(apply x1;apply r0;apply r0)|apply w4|(apply x6;apply r0;omega)|apply w7|apply wa|apply w5|apply wg
      refine ⟨(k + 1, T2, M2), ⟨hkl, hM3, by dsimp only; rw [hl3, hMl, hrm], ?_⟩, by dsimp only; omega, (by repeat (first | exact Fr.sub_nil _ | refine Fr.sub_cons rfl ?_)), AHeap.sub_refl _⟩
      dsimp only
      rw [← hbf]; rfl
  · have hkl : k = l.length := by
      rw [ll, List.length_cons] at d
      omega
    subst hkl
    rw [List.drop_length] at hbf
    rw [← hbf] at h1
    repeat first|(apply gO;first|(apply x1;apply r0;apply r0)|(apply x2;apply r0;(with_reducible repeat first|assumption|apply q0|apply gp);apply r0)|(apply xst;apply r0;(with_reducible repeat first|assumption|apply q0|apply gp);apply r0)|apply w4)|(apply gW;first|apply w6|apply w7|apply wd|apply wc)|apply w5|apply wf|apply wh
    exact rt3c (H' := H) rfl rfl (by apply q0) rfl (by rfl) rfl rfl (by exact Wk.three (wk_agg rfl)) (by repeat first|assumption|(apply su1;assumption)|(apply su3;assumption;assumption)) (h1 T M rfl hM hMl)
end Abs
end Go.Proofs.Ytpifnlodilcgkaa

set_option linter.unusedVariables false
namespace Go.Proofs.Ytpifnlodilcgkaa
namespace Abs
set_option linter.unusedSimpArgs false
set_option maxRecDepth 10000
set_option maxHeartbeats 2000000
attribute [local irreducible] AOps AW AP ACalls thenQ inBlk noGoto

theorem tree10_c {t : Nat} {T : Tab} (hg : T.good) {H : AHeap} (hT : Rd H t (encTab T)) {K : AVal → AHeap → Prop} (hK : ∀ L, Tells T L → L.length = 24 → K (.agg (encT L)) H) : ACalls Try.prog 28 [.ptr t 0] H K := by
  refine acalls_body Try.func28 rfl rfl rfl ?_
  have hw := hg.wf
  have h24 := hw.2.1
  repeat first|apply w6|apply w7
  refine s_alloc tk rfl rfl rfl (fun b2 hb2 => ?_); have hb := hb2; (try simp only [put_none_iff, prot_none_iff] at hb); (repeat obtain ⟨_, _, hb⟩ := hb)
  repeat first|(apply x9;apply r0)|apply w4|apply w6|apply w7|apply w5
  refine rnew_c ?_
  rw [show (min (max (24 : Int) 1) 24).toNat = 24 by decide, ← upto_zero T]
  skip
  refine s_alloc tk rfl rfl rfl (fun b3 hb3 => ?_); have hb := hb3; (try simp only [put_none_iff, prot_none_iff] at hb); (repeat obtain ⟨_, _, hb⟩ := hb)
  (apply xst;apply r0;(apply ps);apply r0)
  rw [put_put]
  have n3 : t ≠ b3 := rd_ne hT hb
  have n2 : t ≠ b2 := rd_ne hT (by assumption)
  have n32 : b2 ≠ b3 := by assumption
  have f3 : H b3 = none := hb
  have f2 : H b2 = none := by assumption
  generalize hX : AHeap.put H b2 _ = X
  have xT : Rd X t (encTab T) := by rw [← hX]; exact (by with_reducible repeat first|assumption|apply q3)
  have x2' : X b2 = some (.cells [.sl [] .full]) := by rw [← hX]; exact (by apply get_eq;(focus apply ps);rfl)
  have xs : H.sub X := by rw [← hX]; exact (by repeat first|exact s0|(apply su1;assumption))
  have x3' : X b3 = none := by rw [← hX, put_ne n32.symm]; exact f3
  clear hX
  repeat first|(apply x1;apply r0;apply r0)|apply w4|apply w6|apply w7|apply wb|apply w5
  refine aw_loop (fun k : Nat => k ≤ 24) (fun k => [(0, .ptr t 0), (2, .ptr b2 0), (3, .ptr b3 0), (4, .i ((k : Int) + 1))]) (fun k => X.put b3 (.cells (encT (upto T k)))) (fun k => 24 - k) 0 (Nat.zero_le _) (by repeat (first | exact Fr.sub_nil _ | refine Fr.sub_cons rfl ?_)) (AHeap.sub_refl _) ?_
  intro k hk
  repeat first|(apply x1;apply r0;apply r0)|apply w4|apply w6|apply w7|apply w5
  refine aw_cond rfl (fun c => ?_) (fun c => ?_)<;>first|replace c:=of_decide_eq_true c|replace c:=of_decide_eq_false c
  case refine_2 =>
    have : k = 24 := by omega
    subst this
    repeat first|(apply gO;first|(apply x2;apply r0;(with_reducible repeat first|assumption|apply q0|apply gp);apply r0)|(apply xst;apply r0;(with_reducible repeat first|assumption|apply q0|apply gp);apply r0)|apply w4)|(apply gW;first|apply w6|apply w7|apply wd|apply wc)|apply w5|apply wf|apply wh
    exact rt1c (H' := H) rfl rfl (by apply q0) rfl (by rfl) (by exact .refl _) (by repeat first|assumption|(apply su1;assumption)) (hK _ ⟨upto_rel hw, hg⟩ (upto_len _ _))
  repeat first|(apply x1;apply r0;apply r0)|(apply x9;apply r0)|apply w6|apply w7|apply wa|apply wb|apply w5
  refine tget_c hw (by with_reducible repeat first|assumption|apply q3) ?_
  rw [← nd_at]
  repeat (apply x1;apply r0;apply r0)
  refine s_alloc tk rfl rfl rfl (fun b5 hb5 => ?_); have hb := hb5; (try simp only [put_none_iff, prot_none_iff] at hb); (repeat obtain ⟨_, _, hb⟩ := hb)
  (apply xst;apply r0;(apply ps);apply r0)
  rw [put_put]
  have n5 : b3 ≠ b5 := by assumption
  cases hh : T.has ((k : Int) + 1) with
  | false =>
    have hz : T.nd k = Node.zero := by unfold Tab.nd; rw [hh]; rfl
    repeat first|(apply gO;first|(apply x1;apply r0;apply r0)|apply w4|(apply x6;apply r0;omega))|(apply gW;first|apply w6|apply w7|(apply w9;apply r0)|apply wa)|apply w5|apply wg
    refine ⟨k + 1, by omega, by omega, (by repeat (first | exact Fr.sub_nil _ | refine Fr.sub_cons rfl ?_)), ?_⟩
    rw [upto_same hz]
    exact (by repeat first|exact s0|(apply su1;assumption))
  | true =>
    have hnd : T.nd k = T.nd k := rfl
    have hsm : (T.nd k).small := nd_small hw k
    repeat first|(apply x1;apply r0;apply r0)|apply w4|apply w6|apply w7|(apply w8;apply r0)|apply w5
    refine aw_prot [b5] (allc (by apply q0) (allc0 _)) ?_
    refine aw_plan mixed (.take 1 (.take 2 (.two 0 3 (.one 3 (.one 4 (.one 5 .done))) (.one 0 (.one 4 (.one 5 .done)))))) (by kernel_rfl) ?_
    repeat first|(apply y1;apply r0;apply r0)|(apply y2;apply r0;apply r0;(with_reducible repeat first|apply q0|apply pg|exact mm0);apply r0)
    refine e_two rfl rfl ?_ ?_
    · repeat first|(apply x2;apply r0;(with_reducible repeat first|assumption|apply q0|apply q4|apply q3);apply r0)|(apply x9;apply r0)|apply w4|(apply y4;apply r0)
      refine model10_c hsm ?_
      repeat first|(apply x9;apply r0)|apply w4|(apply y4;apply r0)
      refine rwith_c (by rw [upto_len]; omega) (by rw [upto_len]; omega) ?_
      rw [show ((k : Int) + 1 - 1).toNat = k by omega, hnd, upto_succ T (by omega)]
      repeat first|(apply xst;apply r0;(with_reducible repeat first|assumption|apply ps|apply gp|apply gq|apply nm1|exact nm0);apply r0)|apply w4|apply y0|(apply y4;apply r0)
      refine prot_done_put (by simp only [List.mem_cons,List.not_mem_nil,or_false,not_or]; first|exact (by first|assumption|exact n1 ‹_› ‹_›|exact n2 ‹_› ‹_›|exact n3 ‹_› ‹_›|exact n4 ‹_› ‹_›)|exact ⟨(by first|assumption|exact n1 ‹_› ‹_›|exact n2 ‹_› ‹_›|exact n3 ‹_› ‹_›|exact n4 ‹_› ‹_›),(by first|assumption|exact n1 ‹_› ‹_›|exact n2 ‹_› ‹_›|exact n3 ‹_› ‹_›|exact n4 ‹_› ‹_›)⟩|exact ⟨(by first|assumption|exact n1 ‹_› ‹_›|exact n2 ‹_› ‹_›|exact n3 ‹_› ‹_›|exact n4 ‹_› ‹_›),(by first|assumption|exact n1 ‹_› ‹_›|exact n2 ‹_› ‹_›|exact n3 ‹_› ‹_›|exact n4 ‹_› ‹_›),(by first|assumption|exact n1 ‹_› ‹_›|exact n2 ‹_› ‹_›|exact n3 ‹_› ‹_›|exact n4 ‹_› ‹_›)⟩) ?_
      repeat first|(apply x1;apply r0;apply r0)|apply w4|(apply x6;apply r0;omega)|apply w7|apply w5|apply wg
      exact ⟨k + 1, by omega, by omega, (by repeat (first | exact Fr.sub_nil _ | refine Fr.sub_cons rfl ?_)), (by repeat first|exact s1|(apply su2;assumption)|apply put_sub')⟩
    · repeat (apply x9;apply r0)
      refine model10_c hsm ?_
      repeat first|(apply x2;apply r0;(with_reducible repeat first|assumption|apply q0|apply q4|apply q3);apply r0)|(apply x9;apply r0)|apply w4|(apply y4;apply r0)
      refine rwith_c (by rw [upto_len]; omega) (by rw [upto_len]; omega) ?_
      rw [show ((k : Int) + 1 - 1).toNat = k by omega, hnd, upto_succ T (by omega)]
      repeat first|(apply xst;apply r0;(with_reducible repeat first|assumption|apply ps|apply gp|apply gq|apply nm1|exact nm0);apply r0)|apply w4|apply y0|(apply y4;apply r0)
      refine prot_done_put (by simp only [List.mem_cons,List.not_mem_nil,or_false,not_or]; first|exact (by first|assumption|exact n1 ‹_› ‹_›|exact n2 ‹_› ‹_›|exact n3 ‹_› ‹_›|exact n4 ‹_› ‹_›)|exact ⟨(by first|assumption|exact n1 ‹_› ‹_›|exact n2 ‹_› ‹_›|exact n3 ‹_› ‹_›|exact n4 ‹_› ‹_›),(by first|assumption|exact n1 ‹_› ‹_›|exact n2 ‹_› ‹_›|exact n3 ‹_› ‹_›|exact n4 ‹_› ‹_›)⟩|exact ⟨(by first|assumption|exact n1 ‹_› ‹_›|exact n2 ‹_› ‹_›|exact n3 ‹_› ‹_›|exact n4 ‹_› ‹_›),(by first|assumption|exact n1 ‹_› ‹_›|exact n2 ‹_› ‹_›|exact n3 ‹_› ‹_›|exact n4 ‹_› ‹_›),(by first|assumption|exact n1 ‹_› ‹_›|exact n2 ‹_› ‹_›|exact n3 ‹_› ‹_›|exact n4 ‹_› ‹_›)⟩) ?_
      repeat first|(apply x1;apply r0;apply r0)|apply w4|(apply x6;apply r0;omega)|apply w7|apply w5|apply wg
      exact ⟨k + 1, by omega, by omega, (by repeat (first | exact Fr.sub_nil _ | refine Fr.sub_cons rfl ?_)), (by repeat first|exact s1|(apply su2;assumption)|apply put_sub')⟩
end Abs
end Go.Proofs.Ytpifnlodilcgkaa
