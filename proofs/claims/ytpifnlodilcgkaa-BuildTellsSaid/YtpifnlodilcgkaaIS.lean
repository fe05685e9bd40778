import Derived.Test.YtpifnlodilcgkaaIR
import Derived.Test.YtpifnlodilcgkaaIF
set_option linter.unusedVariables false
namespace Go.Proofs.Ytpifnlodilcgkaa
namespace Abs
set_option linter.unusedSimpArgs false
set_option maxRecDepth 10000
set_option maxHeartbeats 2000000
attribute [local irreducible] AOps AW AP ACalls thenQ inBlk noGoto

/-! ### BuildTells -/
theorem buildTells_c {room : Int} {l : List Raw} (hl : l.length ≤ 9223372036854775807) {ns : List Node} (hns : ns.length ≤ 9223372036854775807) {H : AHeap} {K : AVal → AHeap → Prop} (hK : K (.b true) H) :
    ACalls Try.prog 7 [.i room, .sl (encRaws l) .no, .sl (ns.map encNode) .no] H K := by
  refine acalls_body Try.func7 rfl rfl rfl ?_
  have ll := raws_len l
  have lns : (ns.map encNode).length = ns.length := List.length_map ..
  repeat first|(apply x1;apply r0;apply r0)|(apply x9;apply r0)|apply w4|apply w6|apply w7|apply w5
  refine awake10_c ?_
  repeat first|(apply gO;first|(apply x1;apply r0;apply r0)|(apply x9;apply r0)|apply w4)|(apply gW;first|apply w6|apply w7|(apply w9;apply r0)|apply wa)|apply w5
  refine few10_c hl (fun q hq => ?_)
  repeat first|(apply x1;apply r0;apply r0)|apply w4|apply w6|apply w7|apply w5
  refine s_gsplit rfl rfl (fun c1 => ?_) (fun c1 => ?_)
  · repeat first|(apply gO;first|(apply x1;apply r0;apply r0)|apply w4|(apply w3;apply r0;apply r0))|(apply gW;first|apply w6|apply w7|(apply w8;apply r0)|apply wd)|apply w5|apply we
    exact rt1 (H' := H) rfl rfl (.refl _) s0 hK
  obtain ⟨hl50, hf⟩ := hq (by simpa using c1)
  repeat first|(apply x1;apply r0;apply r0)|(apply x5;apply r0)|apply w4|apply w5
  refine aw_cond rfl (fun c2 => ?_) (fun c2 => ?_)<;>first|replace c2:=of_decide_eq_true c2|replace c2:=of_decide_eq_false c2
  · repeat first|(apply x1;apply r0;apply r0)|apply w4|apply w6|apply w7|apply wd|apply w5|apply we
    exact rt1 (H' := H) rfl rfl (.refl _) s0 hK
  have hbs := build_some (room := room) (l := l)
  repeat first|(apply x1;apply r0;apply r0)|(apply x9;apply r0)|apply w6|apply w7|apply wa|apply w5
  refine build_c (by omega) hf (fun h0 => ?_) (fun T t hT ht => ?_)
  · have he := hbs.2 h0
    repeat first|(apply x1;apply r0;apply r0)|apply w4|apply w6|apply w7|apply w5
    refine aw_cond rfl (fun c6 => ?_) (fun c6 => ?_)<;>first|replace c6:=not_t c6|replace c6:=not_f c6
    case refine_2 => exact absurd c6 he
    repeat first|(apply x9;apply r0)|apply w7
    refine new_c (fun t ht => ?_)
    have hg := good_new 24
    repeat first|(apply x1;apply r0;apply r0)|apply w4|apply w6|apply w7|apply wb|apply w5
    refine aw_loop (fun s : Nat × Tab => s.1 ≤ ns.length ∧ s.2.good) (fun s => [(2, .sl (ns.map encNode) .no), (9, .ptr t 0), (12, .i s.1)]) (fun s => H.put t (.cells (encTab s.2))) (fun s => ns.length - s.1) (0, Tab.new 24) ⟨Nat.zero_le _, hg⟩ (by repeat (first | exact Fr.sub_nil _ | refine Fr.sub_cons rfl ?_)) (AHeap.sub_refl _) ?_
    clear hg
    rintro ⟨k, V⟩ ⟨hk, hg⟩
    dsimp only at hk hg ⊢
    repeat first|(apply x1;apply r0;apply r0)|apply w4|apply w6|apply w7|apply w5
    refine aw_cond rfl (fun c3 => ?_) (fun c3 => ?_)<;>first|replace c3:=of_decide_eq_true c3|replace c3:=of_decide_eq_false c3
    · have c3' : k < ns.length := by omega
      have hget : (ns.map encNode)[(k : Int).toNat]? = some (encNode ns[k]) := by simp [c3']
      generalize ns[k] = n at hget
      have lb := encBytes_len n.data
      have le := ents_len n.ents
      repeat first|(apply x1;apply r0;apply r0)|apply w6|apply w7|apply wa|apply wb|apply w5
      refine s_index tk rfl rfl rfl rfl (by omega) hget rfl ?_
      repeat first|(apply x1;apply r0;apply r0)|(apply x3;apply r0)
      refine s_gsplit rfl rfl (fun g1 => ?_) (fun g1 => ?_)<;>first|replace g1:=of_decide_eq_true g1|replace g1:=of_decide_eq_false g1
      · repeat first|(apply gO;first|(apply x1;apply r0;apply r0)|apply w4|(apply w3;apply r0;apply r0))|(apply gW;first|apply w6|apply w7|(apply w8;apply r0)|apply wd)|apply w5|apply we|apply wj
        exact rt1 (H' := H) rfl rfl (.refl _) (by repeat first|exact s0|(apply su1;assumption)) hK
      repeat first|(apply x1;apply r0;apply r0)|(apply x5;apply r0)
      refine s_index tk rfl rfl rfl rfl (by omega) hget rfl ?_
      repeat first|(apply x1;apply r0;apply r0)|(apply x3;apply r0)|(apply x5;apply r0)
      refine s_gsplit rfl rfl (fun g2 => ?_) (fun g2 => ?_)<;>first|replace g2:=of_decide_eq_true g2|replace g2:=of_decide_eq_false g2
      · repeat first|(apply gO;first|(apply x1;apply r0;apply r0)|apply w4|(apply w3;apply r0;apply r0))|(apply gW;first|apply w6|apply w7|(apply w8;apply r0)|apply wd)|apply w5|apply we|apply wj
        exact rt1 (H' := H) rfl rfl (.refl _) (by repeat first|exact s0|(apply su1;assumption)) hK
      repeat first|(apply x1;apply r0;apply r0)|(apply x5;apply r0)
      refine s_index tk rfl rfl rfl rfl (by omega) hget rfl ?_
      repeat first|(apply x1;apply r0;apply r0)|(apply x3;apply r0)|(apply x5;apply r0)|apply w4|apply w5
      refine aw_cond rfl (fun g3 => ?_) (fun g3 => ?_)<;>first|replace g3:=of_decide_eq_true g3|replace g3:=of_decide_eq_false g3
      · repeat first|(apply gO;first|(apply x1;apply r0;apply r0)|apply w4)|(apply gW;first|apply w6|apply w7|apply wd)|apply w5|apply we|apply wj
        exact rt1 (H' := H) rfl rfl (.refl _) (by repeat first|exact s0|(apply su1;assumption)) hK
      have hsm : n.small := ⟨by omega, by omega⟩
      repeat first|(apply x1;apply r0;apply r0)|apply w7|apply wa|apply w5
      refine s_index tk rfl rfl rfl rfl (by omega) hget rfl ?_
      repeat first|(apply x3;apply r0)|(apply x9;apply r0)
      refine add2_c hg.wf hsm (by apply ps) ?_
      rw [put_put]
      repeat first|(apply x1;apply r0;apply r0)|apply w4|(apply x6;apply r0;omega)|apply w7|apply w5|apply wg
      exact ⟨(k + 1, (V.add n).1), ⟨c3', good_add hg n⟩, by dsimp only; omega, (by repeat (first | exact Fr.sub_nil _ | refine Fr.sub_cons rfl ?_)), AHeap.sub_refl _⟩
    have hlx := tell_len10 hg
    generalize hX : AHeap.put H t _ = X
    have xT : X t = some (.cells (encTab V)) := by rw [← hX]; exact (by apply get_eq;(focus apply ps);rfl)
    have xs' : H.sub X := by rw [← hX]; exact (by repeat first|exact s0|(apply su1;assumption))
    clear hX
    repeat first|(apply gO;first|(apply x1;apply r0;apply r0)|(apply x9;apply r0))|(apply gW;first|apply w6|apply w7|apply wc)|apply w5|apply wf|apply wh
    refine tell_c hg (by with_reducible repeat exact q1 ‹_›) ?_
    repeat (apply x9;apply r0)
    refine told10_c (by omega) ?_
    repeat first|(apply x1;apply r0;apply r0)|(apply x9;apply r0)|apply w4|apply w6|apply w7|apply w5
    refine tree10_c hg (by with_reducible repeat exact q1 ‹_›) (fun L hL _ => ?_)
    repeat (apply x9;apply r0)
    refine rtell_c hL ?_
    generalize V.tell = x at hlx ⊢
    have lx := rs_len x
    repeat first|(apply x1;apply r0;apply r0)|apply w4|apply w6|apply w7|apply w5
    refine aw_cond rfl (fun c4 => ?_) (fun c4 => ?_)<;>first|replace c4:=not_t c4|replace c4:=not_f c4
    · exact absurd rfl c4
    repeat first|(apply x1;apply r0;apply r0)|apply w4|apply w6|apply w7|apply wa|apply wb|apply w5
    refine aw_loop (fun k : Nat => k ≤ x.length) (fun k => [(13, .sl (encRs x) .no), (14, .sl (encRs x) .no), (15, .i k)]) (fun _ => X) (fun k => x.length - k) 0 (Nat.zero_le _) (by repeat (first | exact Fr.sub_nil _ | refine Fr.sub_cons rfl ?_)) (AHeap.sub_refl _) ?_
    intro k hk
    repeat first|(apply x1;apply r0;apply r0)|apply w4|apply w6|apply w7|apply w5
    refine aw_cond rfl (fun c5 => ?_) (fun c5 => ?_)<;>first|replace c5:=of_decide_eq_true c5|replace c5:=of_decide_eq_false c5
    case refine_2 =>
      repeat first|(apply gO;first|(apply x1;apply r0;apply r0)|apply w4)|(apply gW;first|apply w6|apply w7|apply wd|apply wc)|apply w5|apply wf|apply wh
      exact rt1 (H' := H) rfl rfl (.refl _) (by repeat assumption) hK
    have c5' : k < x.length := by omega
    have hget := rs_get x k c5'
    generalize x[k] = r at hget
    repeat first|apply w6|apply wa|apply wb|apply w5
    refine aw_plan mixed (.take 0 (.take 1 (.take 2 (.take 3 (.take 4 (.take 5 (.take 6 (.take 7 (.take 8 (.take 9 (.one 10 (.take 11 (.take 12 (.take 13 (.take 14 (.take 15 (.take 16 (.take 17 (.take 18 (.take 19 (.take 20 (.take 21 (.take 22 (.take 23 (.take 24 (.take 25 (.take 26 (.take 27 (.take 28 (.take 29 (.take 30 (.take 31 (.take 32 (.take 33 (.take 34 (.take 35 (.take 36 (.take 37 (.take 38 (.take 39 (.take 40 (.take 41 (.take 42 (.take 43 (.take 44 (.take 45 (.take 46 (.take 47 (.take 48 (.take 49 (.take 50 .done))))))))))))))))))))))))))))))))))))))))))))))))))) (by kernel_rfl) ?_
    repeat (apply y1;apply r0;apply r0)
    refine d_index rfl rfl rfl rfl rfl rfl (by omega) hget rfl ?_
    repeat first|(apply y1;apply r0;apply r0)|(apply y3;apply r0;apply r0)
    refine d_index rfl rfl rfl rfl rfl rfl (by omega) hget rfl ?_
    repeat first|(apply x9;apply r0)|(apply y1;apply r0;apply r0)|(apply y4;apply r0)|(apply y3;apply r0;apply r0)
    refine rsame_c (a := r.made) (b := r.made) ⟨Nat.zero_le _, fun e he => by cases he⟩ ?_
    rw [same_refl]
    repeat first|apply w4|(apply y1;apply r0;apply r0)|(apply take1_ok;apply r0)
    refine d_index rfl rfl rfl rfl rfl rfl (by omega) hget rfl ?_
    repeat first|(apply take1_ok;apply r0)|(apply y3;apply r0;apply r0)
    refine d_index rfl rfl rfl rfl rfl rfl (by omega) hget rfl ?_
    repeat first|(apply y1;apply r0;apply r0)|(apply take1_ok;apply r0)|(apply y3;apply r0;apply r0)
    refine d_split rfl rfl rfl (fun e1 => ?_) (fun e1 => ?_)<;>first|replace e1:=not_t e1|replace e1:=not_f e1
    · exact absurd rfl e1
    repeat (apply take1_ok;apply r0)
    refine d_index rfl rfl rfl rfl rfl rfl (by omega) hget rfl ?_
    repeat first|(apply take1_ok;apply r0)|(apply y3;apply r0;apply r0)
    refine d_index rfl rfl rfl rfl rfl rfl (by omega) hget rfl ?_
    repeat first|(apply y1;apply r0;apply r0)|(apply take1_ok;apply r0)|(apply y3;apply r0;apply r0)
    refine d_split rfl rfl rfl (fun e2 => ?_) (fun e2 => ?_)<;>first|replace e2:=not_t e2|replace e2:=not_f e2
    · exact absurd rfl e2
    repeat (apply take1_ok;apply r0)
    refine d_index rfl rfl rfl rfl rfl rfl (by omega) hget rfl ?_
    repeat first|(apply take1_ok;apply r0)|(apply y3;apply r0;apply r0)
    refine d_index rfl rfl rfl rfl rfl rfl (by omega) hget rfl ?_
    repeat first|(apply y1;apply r0;apply r0)|apply y0|(apply take1_ok;apply r0)|(apply y3;apply r0;apply r0)|apply w5
    skip
    refine aw_cond rfl (fun e3 => ?_) (fun e3 => ?_)<;>first|replace e3:=not_t e3|replace e3:=not_f e3
    · exact absurd rfl e3
    repeat first|(apply x1;apply r0;apply r0)|apply w4|(apply x6;apply r0;omega)|apply w7|apply wa|apply w5|apply wg
    exact ⟨k + 1, c5', by omega, (by repeat (first | exact Fr.sub_nil _ | refine Fr.sub_cons rfl ?_)), AHeap.sub_refl _⟩
  have he := hbs.1 (by rw [hT]; simp)
  have hg := good_build hT
  rw [he]
  repeat first|(apply gO;first|(apply x1;apply r0;apply r0)|apply w4)|(apply gW;first|apply w6|apply w7|(apply w9;apply r0)|apply wa|apply wb)|apply w5
  refine aw_loop (fun s : Nat × Tab => s.1 ≤ ns.length ∧ s.2.good) (fun s => [(2, .sl (ns.map encNode) .no), (9, .ptr t 0), (12, .i s.1)]) (fun s => H.put t (.cells (encTab s.2))) (fun s => ns.length - s.1) (0, T) ⟨Nat.zero_le _, hg⟩ (by repeat (first | exact Fr.sub_nil _ | refine Fr.sub_cons rfl ?_)) (AHeap.sub_refl _) ?_
  clear hg
  rintro ⟨k, V⟩ ⟨hk, hg⟩
  dsimp only at hk hg ⊢
  repeat first|(apply x1;apply r0;apply r0)|apply w4|apply w6|apply w7|apply w5
  refine aw_cond rfl (fun c3 => ?_) (fun c3 => ?_)<;>first|replace c3:=of_decide_eq_true c3|replace c3:=of_decide_eq_false c3
  · have c3' : k < ns.length := by omega
    have hget : (ns.map encNode)[(k : Int).toNat]? = some (encNode ns[k]) := by simp [c3']
    generalize ns[k] = n at hget
    have lb := encBytes_len n.data
    have le := ents_len n.ents
    repeat first|(apply x1;apply r0;apply r0)|apply w6|apply w7|apply wa|apply wb|apply w5
    refine s_index tk rfl rfl rfl rfl (by omega) hget rfl ?_
    repeat first|(apply x1;apply r0;apply r0)|(apply x3;apply r0)
    refine s_gsplit rfl rfl (fun g1 => ?_) (fun g1 => ?_)<;>first|replace g1:=of_decide_eq_true g1|replace g1:=of_decide_eq_false g1
    · repeat first|(apply gO;first|(apply x1;apply r0;apply r0)|apply w4|(apply w3;apply r0;apply r0))|(apply gW;first|apply w6|apply w7|(apply w8;apply r0)|apply wd)|apply w5|apply we|apply wj
      exact rt1 (H' := H) rfl rfl (.refl _) (by repeat first|exact s0|(apply su1;assumption)) hK
    repeat first|(apply x1;apply r0;apply r0)|(apply x5;apply r0)
    refine s_index tk rfl rfl rfl rfl (by omega) hget rfl ?_
    repeat first|(apply x1;apply r0;apply r0)|(apply x3;apply r0)|(apply x5;apply r0)
    refine s_gsplit rfl rfl (fun g2 => ?_) (fun g2 => ?_)<;>first|replace g2:=of_decide_eq_true g2|replace g2:=of_decide_eq_false g2
    · repeat first|(apply gO;first|(apply x1;apply r0;apply r0)|apply w4|(apply w3;apply r0;apply r0))|(apply gW;first|apply w6|apply w7|(apply w8;apply r0)|apply wd)|apply w5|apply we|apply wj
      exact rt1 (H' := H) rfl rfl (.refl _) (by repeat first|exact s0|(apply su1;assumption)) hK
    repeat first|(apply x1;apply r0;apply r0)|(apply x5;apply r0)
    refine s_index tk rfl rfl rfl rfl (by omega) hget rfl ?_
    repeat first|(apply x1;apply r0;apply r0)|(apply x3;apply r0)|(apply x5;apply r0)|apply w4|apply w5
    refine aw_cond rfl (fun g3 => ?_) (fun g3 => ?_)<;>first|replace g3:=of_decide_eq_true g3|replace g3:=of_decide_eq_false g3
    · repeat first|(apply gO;first|(apply x1;apply r0;apply r0)|apply w4)|(apply gW;first|apply w6|apply w7|apply wd)|apply w5|apply we|apply wj
      exact rt1 (H' := H) rfl rfl (.refl _) (by repeat first|exact s0|(apply su1;assumption)) hK
    have hsm : n.small := ⟨by omega, by omega⟩
    repeat first|(apply x1;apply r0;apply r0)|apply w7|apply wa|apply w5
    refine s_index tk rfl rfl rfl rfl (by omega) hget rfl ?_
    repeat first|(apply x3;apply r0)|(apply x9;apply r0)
    refine add2_c hg.wf hsm (by apply ps) ?_
    rw [put_put]
    repeat first|(apply x1;apply r0;apply r0)|apply w4|(apply x6;apply r0;omega)|apply w7|apply w5|apply wg
    exact ⟨(k + 1, (V.add n).1), ⟨c3', good_add hg n⟩, by dsimp only; omega, (by repeat (first | exact Fr.sub_nil _ | refine Fr.sub_cons rfl ?_)), AHeap.sub_refl _⟩
  have hlx := tell_len10 hg
  generalize hX : AHeap.put H t _ = X
  have xT : X t = some (.cells (encTab V)) := by rw [← hX]; exact (by apply get_eq;(focus apply ps);rfl)
  have xs' : H.sub X := by rw [← hX]; exact (by repeat first|exact s0|(apply su1;assumption))
  clear hX
  repeat first|(apply gO;first|(apply x1;apply r0;apply r0)|(apply x9;apply r0))|(apply gW;first|apply w6|apply w7|apply wc)|apply w5|apply wf|apply wh
  refine tell_c hg (by with_reducible repeat exact q1 ‹_›) ?_
  repeat (apply x9;apply r0)
  refine told10_c (by omega) ?_
  repeat first|(apply x1;apply r0;apply r0)|(apply x9;apply r0)|apply w4|apply w6|apply w7|apply w5
  refine tree10_c hg (by with_reducible repeat exact q1 ‹_›) (fun L hL _ => ?_)
  repeat (apply x9;apply r0)
  refine rtell_c hL ?_
  generalize V.tell = x at hlx ⊢
  have lx := rs_len x
  repeat first|(apply x1;apply r0;apply r0)|apply w4|apply w6|apply w7|apply w5
  refine aw_cond rfl (fun c4 => ?_) (fun c4 => ?_)<;>first|replace c4:=not_t c4|replace c4:=not_f c4
  · exact absurd rfl c4
  repeat first|(apply x1;apply r0;apply r0)|apply w4|apply w6|apply w7|apply wa|apply wb|apply w5
  refine aw_loop (fun k : Nat => k ≤ x.length) (fun k => [(13, .sl (encRs x) .no), (14, .sl (encRs x) .no), (15, .i k)]) (fun _ => X) (fun k => x.length - k) 0 (Nat.zero_le _) (by repeat (first | exact Fr.sub_nil _ | refine Fr.sub_cons rfl ?_)) (AHeap.sub_refl _) ?_
  intro k hk
  repeat first|(apply x1;apply r0;apply r0)|apply w4|apply w6|apply w7|apply w5
  refine aw_cond rfl (fun c5 => ?_) (fun c5 => ?_)<;>first|replace c5:=of_decide_eq_true c5|replace c5:=of_decide_eq_false c5
  case refine_2 =>
    repeat first|(apply gO;first|(apply x1;apply r0;apply r0)|apply w4)|(apply gW;first|apply w6|apply w7|apply wd|apply wc)|apply w5|apply wf|apply wh
    exact rt1 (H' := H) rfl rfl (.refl _) (by repeat assumption) hK
  have c5' : k < x.length := by omega
  have hget := rs_get x k c5'
  generalize x[k] = r at hget
  repeat first|apply w6|apply wa|apply wb|apply w5
  refine aw_plan mixed (.take 0 (.take 1 (.take 2 (.take 3 (.take 4 (.take 5 (.take 6 (.take 7 (.take 8 (.take 9 (.one 10 (.take 11 (.take 12 (.take 13 (.take 14 (.take 15 (.take 16 (.take 17 (.take 18 (.take 19 (.take 20 (.take 21 (.take 22 (.take 23 (.take 24 (.take 25 (.take 26 (.take 27 (.take 28 (.take 29 (.take 30 (.take 31 (.take 32 (.take 33 (.take 34 (.take 35 (.take 36 (.take 37 (.take 38 (.take 39 (.take 40 (.take 41 (.take 42 (.take 43 (.take 44 (.take 45 (.take 46 (.take 47 (.take 48 (.take 49 (.take 50 .done))))))))))))))))))))))))))))))))))))))))))))))))))) (by kernel_rfl) ?_
  repeat (apply y1;apply r0;apply r0)
  refine d_index rfl rfl rfl rfl rfl rfl (by omega) hget rfl ?_
  repeat first|(apply y1;apply r0;apply r0)|(apply y3;apply r0;apply r0)
  refine d_index rfl rfl rfl rfl rfl rfl (by omega) hget rfl ?_
  repeat first|(apply x9;apply r0)|(apply y1;apply r0;apply r0)|(apply y4;apply r0)|(apply y3;apply r0;apply r0)
  refine rsame_c (a := r.made) (b := r.made) ⟨Nat.zero_le _, fun e he => by cases he⟩ ?_
  rw [same_refl]
  repeat first|apply w4|(apply y1;apply r0;apply r0)|(apply take1_ok;apply r0)
  refine d_index rfl rfl rfl rfl rfl rfl (by omega) hget rfl ?_
  repeat first|(apply take1_ok;apply r0)|(apply y3;apply r0;apply r0)
  refine d_index rfl rfl rfl rfl rfl rfl (by omega) hget rfl ?_
  repeat first|(apply y1;apply r0;apply r0)|(apply take1_ok;apply r0)|(apply y3;apply r0;apply r0)
  refine d_split rfl rfl rfl (fun e1 => ?_) (fun e1 => ?_)<;>first|replace e1:=not_t e1|replace e1:=not_f e1
  · exact absurd rfl e1
  repeat (apply take1_ok;apply r0)
  refine d_index rfl rfl rfl rfl rfl rfl (by omega) hget rfl ?_
  repeat first|(apply take1_ok;apply r0)|(apply y3;apply r0;apply r0)
  refine d_index rfl rfl rfl rfl rfl rfl (by omega) hget rfl ?_
  repeat first|(apply y1;apply r0;apply r0)|(apply take1_ok;apply r0)|(apply y3;apply r0;apply r0)
  refine d_split rfl rfl rfl (fun e2 => ?_) (fun e2 => ?_)<;>first|replace e2:=not_t e2|replace e2:=not_f e2
  · exact absurd rfl e2
  repeat (apply take1_ok;apply r0)
  refine d_index rfl rfl rfl rfl rfl rfl (by omega) hget rfl ?_
  repeat first|(apply take1_ok;apply r0)|(apply y3;apply r0;apply r0)
  refine d_index rfl rfl rfl rfl rfl rfl (by omega) hget rfl ?_
  repeat first|(apply y1;apply r0;apply r0)|apply y0|(apply take1_ok;apply r0)|(apply y3;apply r0;apply r0)|apply w5
  skip
  refine aw_cond rfl (fun e3 => ?_) (fun e3 => ?_)<;>first|replace e3:=not_t e3|replace e3:=not_f e3
  · exact absurd rfl e3
  repeat first|(apply x1;apply r0;apply r0)|apply w4|(apply x6;apply r0;omega)|apply w7|apply wa|apply w5|apply wg
  exact ⟨k + 1, c5', by omega, (by repeat (first | exact Fr.sub_nil _ | refine Fr.sub_cons rfl ?_)), AHeap.sub_refl _⟩
end Abs
end Go.Proofs.Ytpifnlodilcgkaa
