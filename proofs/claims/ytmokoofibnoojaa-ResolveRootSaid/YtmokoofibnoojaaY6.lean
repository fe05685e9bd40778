import Derived.Test.YtmokoofibnoojaaY5
import Derived.Test.YtmokoofibnoojaaS1
set_option linter.unusedVariables false
namespace Go.Proofs.Ytmokoofibnoojaa
namespace Abs
set_option linter.unusedSimpArgs false
set_option maxRecDepth 10000
set_option maxHeartbeats 2000000
attribute [local irreducible] AOps AW AP ACalls thenQ inBlk noGoto

/-! ### ResolveRoot -/
theorem root_small : rootC.small := (by decide : (0 : Nat) ≤ 1073741824)
theorem sub_round {Y : AHeap} {u b : Nat} {A B C : HObj} (hb : (Y.put u A) b = none) : (Y.put u C).sub (((Y.put u A).put b B).put u C) := fun x o h => by
  refine ⟨o, ?_, .refl o⟩
  rw [← h]
  by_cases e : x = u
  · simp only [AHeap.put, if_pos e]
  · simp only [AHeap.put, if_neg e] at hb h ⊢
    by_cases e2 : x = b
    · subst e2
      rw [if_neg e, h] at hb
      cases hb
    · rw [if_neg e2]
theorem sub_round2 {Y : AHeap} {u b : Nat} {A B : HObj} (hb : (Y.put u A) b = none) : (Y.put u A).sub ((Y.put u A).put b B) := fun x o h => by
  by_cases e2 : x = b
  · subst e2; rw [h] at hb; cases hb
  · refine ⟨o, ?_, .refl o⟩
    rw [← h]
    exact if_neg e2
theorem resolveRoot_c {room : Int} {l : List Raw} (hl : l.length ≤ 9223372036854775807) {c : Cred} {path : ByteArray} {follow : Bool} {H : AHeap} {K : AVal → AHeap → Prop} (hK : K (.b true) H) :
    ACalls Try.prog 8 [.i room, .sl (encRaws l) .no, .agg (encCred c), .s path, .b follow] H K := by
  refine acalls_body Try.func8 rfl rfl rfl ?_
  repeat first|apply w6|apply w7
  refine s_box rfl rfl rfl (fun b7 hb7 => ?_); have hb := hb7; (try simp only [put_none_iff, prot_none_iff] at hb); (repeat obtain ⟨_, _, hb⟩ := hb)
  repeat first|(apply x1;apply r0;apply r0)|(apply x9;apply r0)|apply w4|apply w6|apply w7|apply w5
  refine awake11_c ?_
  repeat first|(apply gO;first|(apply x1;apply r0;apply r0)|(apply x2;apply r0;(apply q0);apply r0)|(apply x9;apply r0)|apply w4)|(apply gW;first|apply w6|apply w7|(apply w9;apply r0)|apply wa)|apply w5
  refine built11_c hl ?_ (fun T t hB ht => ?_)
  · repeat first|(apply gO;first|(apply x1;apply r0;apply r0)|apply w4|(apply w3;apply r0;apply r0))|(apply gW;first|apply w6|apply w7|(apply w8;apply r0)|apply wd)|apply w5|apply we
    exact rt1 (H' := H) rfl rfl (.refl _) (by repeat first|exact s0|(apply su1;assumption)) hK
  have hg := hB.good
  have hc := hB.small
  have htr := build_tree hB.tree
  have nb7 : b7 ≠ t := by
    have := (put_none_iff.1 ht)
    exact this.2.1
  have ht' : H t = none := (put_none_iff.1 ht).2.2
  repeat first|(apply x1;apply r0;apply r0)|(apply x5;apply r0)|apply w4|apply w6|apply w7|apply w5
  refine aw_cond rfl (fun g1 => ?_) (fun g1 => ?_)<;>first|replace g1:=of_decide_eq_true g1|replace g1:=of_decide_eq_false g1
  · repeat first|(apply x1;apply r0;apply r0)|apply w4|apply w6|apply w7|apply wd|apply w5|apply we
    exact rt1 (H' := H) rfl rfl (.refl _) (by repeat first|exact s0|(apply su1;assumption)) hK
  repeat first|(apply x1;apply r0;apply r0)|(apply x2;apply r0;(with_reducible repeat first|assumption|apply q0|apply q3);apply r0)|(apply x9;apply r0)|apply w6|apply w7|apply wa|apply w5
  refine resolve_c hg hc (by apply q0) ?_
  obtain ⟨hr1, hr2⟩ := resolve_root T c path follow
  have hro := resolve_open (wide_open hg c) path follow
  generalize T.resolve c path follow = va at hr1 ⊢
  repeat (apply x1;apply r0;apply r0)
  refine s_alloc tk rfl rfl rfl (fun b14 hb14 => ?_); have hb := hb14; (try simp only [put_none_iff, prot_none_iff] at hb); (repeat obtain ⟨_, _, hb⟩ := hb)
  repeat first|(apply gO;first|(apply x1;apply r0;apply r0)|(apply xst;apply r0;(apply ps);apply r0)|(apply xbd;apply r0)|(apply x9;apply r0)|apply w4)|(apply gW;first|apply w6|apply w7)|apply w5
  refine ACalls.wk (resolve_c (c := rootC) hg root_small (by with_reducible repeat first|assumption|apply q0|apply q3) ?_) (wk4 (wk_agg rfl))
  generalize T.resolve rootC path follow = vb at hr1 hr2 hro ⊢
  repeat (apply x1;apply r0;apply r0)
  refine s_alloc tk rfl rfl rfl (fun b16 hb16 => ?_); have hb := hb16; (try simp only [put_none_iff, prot_none_iff] at hb); (repeat obtain ⟨_, _, hb⟩ := hb)
  repeat first|(apply x1;apply r0;apply r0)|(apply xst;apply r0;(apply ps);apply r0)|apply w4|apply w6|apply w7|apply w5
  refine aw_cond rfl (fun g2 => ?_) (fun g2 => ?_)<;>first|replace g2:=of_decide_eq_true g2|replace g2:=of_decide_eq_false g2
  · have hr : va = vb := by
      rcases hr1 with h | h
      · exact h
      · rw [h] at g2; exact absurd g2 (by decide)
    subst hr
    repeat first|(apply x1;apply r0;apply r0)|apply w6|apply w7
    refine s_gsplit rfl rfl (fun e1 => ?_) (fun e1 => ?_)<;>first|replace e1:=of_decide_eq_true e1|replace e1:=of_decide_eq_false e1
    case refine_2 => exact (e1 g2).elim
    repeat first|(apply x2;apply r0;(with_reducible repeat first|assumption|apply q0|apply q3);apply r0)|(apply x5;apply r0)
    refine s_eqagg (r := true) tk rfl (.inl rfl) rfl rfl rfl (by kernel_rfl) (by exact congrArg some (foundEq va.1)) ?_
    repeat first|(apply x1;apply r0;apply r0)|apply w4|apply wd|apply w5|apply we
    exact rt1 (H' := H) rfl rfl (.refl _) (by repeat first|exact s0|(apply su1;assumption)) hK
  repeat first|(apply x1;apply r0;apply r0)|(apply x9;apply r0)|apply w6|apply w7|apply wa|apply w5
  refine clone_c hg.wf (by with_reducible repeat first|assumption|apply q0|apply q3) (fun u hu => ?_)
  repeat first|(apply x1;apply r0;apply r0)|apply w4|apply w6|apply w7|apply wb|apply w5
  generalize hY : AHeap.put _ b16 _ = Y at hu ⊢
  have yT : Rd Y t (encTab T) := by rw [← hY]; exact (by apply rd_eq;(focus with_reducible repeat first|assumption|apply q0|apply q3);rfl)
  have y7 : Rd Y b7 (encCred c) := by rw [← hY]; exact (by apply rd_eq;(focus with_reducible repeat first|assumption|apply q0|apply q3);rfl)
  have y16 : Rd Y b16 (encF vb.1) := by rw [← hY]; exact (by apply rd_eq;(focus apply q0);rfl)
  have ys : H.sub Y := by rw [← hY]; exact (by repeat first|exact s0|(apply su1;assumption))
  clear hY
  have hwf := hg.wf
  have h24 := hwf.2.1
  refine aw_loop (fun k : Nat => k = 0 ∨ (k : Int) ≤ T.room) (fun k => [(3, .s path), (4, .b follow), (7, .ptr b7 0), (12, .ptr t 0), (15, .i va.2), (16, .ptr b16 0), (17, .i vb.2), (18, .ptr u 0), (19, .i ((k : Int) + 1))]) (fun k => Y.put u (.cells (encTab (T.wide k)))) (fun k => T.room.toNat - k) 0 (.inl rfl) (by repeat (first | exact Fr.sub_nil _ | refine Fr.sub_cons rfl ?_)) (AHeap.sub_refl _) ?_
  intro k hk
  repeat first|(apply x1;apply r0;apply r0)|(apply x9;apply r0)|apply w6|apply w7
  refine room_c (by with_reducible repeat first|assumption|apply q3|exact n1 ‹_› ‹_›) ?_
  repeat first|(apply x1;apply r0;apply r0)|apply w4|apply w5
  refine aw_cond rfl (fun c1 => ?_) (fun c1 => ?_)<;>first|replace c1:=of_decide_eq_true c1|replace c1:=of_decide_eq_false c1
  · have c1' : (k : Int) + 1 ≤ T.room := by omega
    obtain ⟨w1', w2', w3', w4'⟩ := wide_ok hg k (by omega)
    have hat : (T.wide k).at ((k : Int) + 1) = T.at ((k : Int) + 1) := by rw [w3', if_neg (by omega)]
    have hkk : (((k + 1 : Nat) : Int)) = (k : Int) + 1 := by omega
    repeat first|(apply x1;apply r0;apply r0)|(apply x9;apply r0)|apply w6|apply w7|apply wa|apply wb|apply w5
    refine tget_c w1'.wf (by apply q0) ?_
    rw [hat]
    repeat (apply x1;apply r0;apply r0)
    refine s_alloc tk rfl rfl rfl (fun b20 hb20 => ?_); have hb := hb20; (try simp only [put_none_iff, prot_none_iff] at hb); (repeat obtain ⟨_, _, hb⟩ := hb)
    repeat first|(apply x1;apply r0;apply r0)|(apply xst;apply r0;(apply ps);apply r0)|apply w4|apply w6|apply w7|apply w5
    by_cases kd : (T.at ((k : Int) + 1)).kind = 2
    · have hh : (T.wide k).has ((k : Int) + 1) = true := has_kind'.2 (by rw [hat, kd]; decide)
      have hok : nodeOk (T.at ((k : Int) + 1)) = true := by
        rcases at_zero_ok hg ((k : Int) + 1) with z | z
        · rw [z] at kd; cases kd
        · exact z
      have hok2 : nodeOk { T.at ((k : Int) + 1) with mode := 511 } = true := ok_mode hok kd (m := 511) (by decide)
      have hw : T.wide (k + 1) = (T.wide k).put k { T.at ((k : Int) + 1) with mode := 511 } := by rw [Tab.wide, if_pos kd]; unfold wid; rw [if_pos kd]
      rw [hh]
      repeat first|(apply x1;apply r0;apply r0)|(apply x2;apply r0;(apply q0);apply r0)|(apply x5;apply r0)|apply w4|apply w5
      refine aw_cond rfl (fun c2 => ?_) (fun c2 => ?_)<;>first|replace c2:=of_decide_eq_true c2|replace c2:=of_decide_eq_false c2
      case refine_2 => exact absurd kd c2
      repeat first|(apply gO;first|(apply x1;apply r0;apply r0)|(apply x2;apply r0;(with_reducible repeat first|apply q0|apply ps);apply r0)|(apply xst;apply r0;(with_reducible repeat first|apply q0|apply ps);apply r0)|(apply x9;apply r0)|apply w4)|(apply gW;first|apply w6|apply w7)|apply w5
      refine put_c w1'.wf (n := { T.at ((k : Int) + 1) with mode := 511 }) (ok_few hok2).small (by with_reducible repeat first|assumption|apply ps|apply gp) ?_
      rw [if_pos hh, if_pos hok2, show ((k : Int) + 1 - 1).toNat = k by omega, ← hw]
      repeat first|(apply gO;first|(apply x1;apply r0;apply r0)|apply w4|(apply x6;apply r0;omega))|(apply gW;first|apply w7|(apply w9;apply r0)|apply wa)|apply w5|apply wg
      refine ⟨k + 1, .inr (by omega), by omega, (by repeat (first | exact Fr.sub_nil _ | refine Fr.sub_cons rfl ?_)), ?_⟩
      simp only [put_put]
      exact sub_round hb20
    · have hw : T.wide (k + 1) = T.wide k := by rw [Tab.wide, if_neg kd]
      cases hh : (T.wide k).has ((k : Int) + 1) with
      | false =>
        repeat first|(apply gO;first|(apply x1;apply r0;apply r0)|apply w4|(apply w3;apply r0;apply r0)|(apply x6;apply r0;omega))|(apply gW;first|apply w7|(apply w9;apply r0)|apply wa)|apply w5|apply wg
        refine ⟨k + 1, .inr (by omega), by omega, (by repeat (first | exact Fr.sub_nil _ | refine Fr.sub_cons rfl ?_)), ?_⟩
        rw [hw]
        simp only [put_put]
        exact sub_round2 hb20
      | true =>
        repeat first|(apply x1;apply r0;apply r0)|(apply x2;apply r0;(apply q0);apply r0)|(apply x5;apply r0)|apply w4|apply w5
        refine aw_cond rfl (fun c2 => ?_) (fun c2 => ?_)<;>first|replace c2:=of_decide_eq_true c2|replace c2:=of_decide_eq_false c2
        · exact absurd c2 kd
        repeat first|(apply x1;apply r0;apply r0)|apply w4|(apply x6;apply r0;omega)|apply w7|apply wa|apply w5|apply wg
        refine ⟨k + 1, .inr (by omega), by omega, (by repeat (first | exact Fr.sub_nil _ | refine Fr.sub_cons rfl ?_)), ?_⟩
        rw [hw]
        simp only [put_put]
        exact sub_round2 hb20
  have hkr : k = T.room.toNat := by rcases hk with h | h <;> omega
  subst hkr
  obtain ⟨w1', w2', w3', w4'⟩ := wide_ok hg T.room.toNat (by omega)
  repeat first|(apply gO;first|(apply x1;apply r0;apply r0)|(apply x2;apply r0;(with_reducible repeat first|assumption|apply q3|exact n1 ‹_› ‹_›);apply r0)|(apply x9;apply r0))|(apply gW;first|apply w6|apply w7|apply wc)|apply w5|apply wf|apply wh
  refine resolve_c w1' hc (by apply q0) ?_
  rw [hro]
  repeat (apply x1;apply r0;apply r0)
  refine s_alloc tk rfl rfl rfl (fun b22 hb22 => ?_); have hb := hb22; (try simp only [put_none_iff, prot_none_iff] at hb); (repeat obtain ⟨_, _, hb⟩ := hb)
  repeat first|(apply x1;apply r0;apply r0)|(apply xst;apply r0;(apply ps);apply r0)|apply w4|apply w6|apply w7|apply w5
  refine s_gsplit rfl rfl (fun e1 => ?_) (fun e1 => ?_)<;>first|replace e1:=not_t e1|replace e1:=not_f e1
  case refine_2 => exact absurd e1 hr2
  rcases hr1 with hr | hr
  · rw [hr]
    repeat first|(apply x1;apply r0;apply r0)|(apply x5;apply r0)
    refine s_gsplit rfl rfl (fun e2 => ?_) (fun e2 => ?_)<;>first|replace e2:=of_decide_eq_true e2|replace e2:=of_decide_eq_false e2
    case refine_1 => exact absurd e2 hr2
    repeat first|(apply x1;apply r0;apply r0)|(apply x5;apply r0)
    refine s_gsplit rfl rfl (fun e3 => ?_) (fun e3 => ?_)<;>first|replace e3:=of_decide_eq_true e3|replace e3:=of_decide_eq_false e3
    case refine_2 => exact (e3 rfl).elim
    repeat first|(apply x1;apply r0;apply r0)|(apply x5;apply r0)
    refine s_gsplit rfl rfl (fun e4 => ?_) (fun e4 => ?_)<;>first|replace e4:=of_decide_eq_true e4|replace e4:=of_decide_eq_false e4
    case refine_2 => exact (e4 rfl).elim
    repeat first|(apply x2;apply r0;(with_reducible repeat first|assumption|apply q0|apply q3|exact n1 ‹_› ‹_›);apply r0)|(apply x5;apply r0)
    refine s_eqagg (r := true) tk rfl (.inl rfl) rfl rfl rfl (by kernel_rfl) (by exact congrArg some (foundEq vb.1)) ?_
    repeat first|(apply x1;apply r0;apply r0)|apply w4|apply wd|apply w5
    exact rt1 (H' := H) rfl rfl (.refl _) (by repeat first|assumption|(apply su3;assumption;assumption)) hK
  · rw [hr]
    repeat first|(apply x1;apply r0;apply r0)|(apply x5;apply r0)|(apply w3;apply r0;apply r0)
    refine s_gsplit rfl rfl (fun e4 => ?_) (fun e4 => ?_)<;>first|replace e4:=of_decide_eq_true e4|replace e4:=of_decide_eq_false e4
    case refine_2 => exact (e4 rfl).elim
    repeat first|(apply x2;apply r0;(with_reducible repeat first|assumption|apply q0|apply q3|exact n1 ‹_› ‹_›);apply r0)|(apply x5;apply r0)
    refine s_eqagg (r := true) tk rfl (.inl rfl) rfl rfl rfl (by kernel_rfl) (by exact congrArg some (foundEq vb.1)) ?_
    repeat first|(apply x1;apply r0;apply r0)|apply w4|apply wd|apply w5
    exact rt1 (H' := H) rfl rfl (.refl _) (by repeat first|assumption|(apply su3;assumption;assumption)) hK
end Abs
end Go.Proofs.Ytmokoofibnoojaa
