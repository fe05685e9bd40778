import Derived.Test.YtmokoofibnoojaaY3
import Derived.Test.YtmokoofibnoojaaS1
set_option linter.unusedVariables false
namespace Go.Proofs.Ytmokoofibnoojaa
namespace Abs
set_option linter.unusedSimpArgs false
set_option maxRecDepth 10000
set_option maxHeartbeats 2000000
attribute [local irreducible] AOps AW AP ACalls thenQ inBlk noGoto

/-! ### ResolveCan -/
def tabZ : Tab := ⟨0, List.replicate 24 Node.zero⟩
theorem tabZ_has (i : Int) : tabZ.has i = false := by
  cases h : tabZ.has i with
  | false => rfl
  | true =>
    unfold Tab.has at h
    simp only [Bool.and_eq_true, decide_eq_true_eq] at h
    have h1 := h.1.1
    have h2 : i ≤ 0 := h.1.2
    omega
theorem tabZ_fits (path : ByteArray) : tabZ.fitsE path ≠ 0 := by
  unfold Tab.fitsE
  rw [tabZ_has]
  split
  · decide
  · split
    · decide
    · split <;> decide
theorem fitsn_c {path : ByteArray} {H : AHeap} {K : AVal → AHeap → Prop} (hK : K (.i (tabZ.fitsE path)) H) :
    ACalls Try.prog 48 [.nilp, .s path] H K := by
  refine acalls_body Try.func48 rfl rfl rfl ?_
  unfold Tab.fitsE at hK
  repeat first|(apply x1;apply r0;apply r0)|apply w4|apply w6|apply w7|apply wb|apply w5
  refine aw_cond rfl (fun c1 => ?_) (fun c1 => ?_)<;>first|replace c1:=of_decide_eq_true c1|replace c1:=of_decide_eq_false c1
  · rw [if_pos c1] at hK
    repeat first|(apply gO;first|(apply x1;apply r0;apply r0)|apply w4)|(apply gW;first|apply w6|apply w7|apply wd)|apply w5|apply we|apply wj
    exact rt1 rfl rfl (.refl _) (AHeap.sub_refl _) hK
  rw [if_neg c1] at hK
  repeat first|(apply x1;apply r0;apply r0)|apply w4|apply w6|apply w7|apply w5
  refine aw_cond rfl (fun c2 => ?_) (fun c2 => ?_)<;>first|replace c2:=of_decide_eq_true c2|replace c2:=of_decide_eq_false c2
  · rw [if_pos c2] at hK
    repeat first|(apply gO;first|(apply x1;apply r0;apply r0)|apply w4)|(apply gW;first|apply w6|apply w7|apply wd)|apply w5|apply we|apply wj
    exact rt1 rfl rfl (.refl _) (AHeap.sub_refl _) hK
  rw [if_neg c2] at hK
  repeat first|(apply x1;apply r0;apply r0)|(apply x9;apply r0)|apply w6|apply w7
  refine indexByte_c (c := 0) rfl (fun r hr => ?_)
  repeat first|(apply x1;apply r0;apply r0)|apply w4|apply w5
  refine aw_cond rfl (fun c3 => ?_) (fun c3 => ?_)<;>first|replace c3:=of_decide_eq_true c3|replace c3:=of_decide_eq_false c3
  · have : hasB path 0 = true := by
      cases hb : hasB path 0 with
      | true => rfl
      | false => rw [hb] at hr; simp at hr; omega
    rw [if_pos this] at hK
    repeat first|(apply gO;first|(apply x1;apply r0;apply r0)|apply w4)|(apply gW;first|apply w6|apply w7|apply wd)|apply w5|apply we|apply wj
    exact rt1 rfl rfl (.refl _) (AHeap.sub_refl _) hK
  have : hasB path 0 = false := by
    cases hb : hasB path 0 with
    | false => rfl
    | true => rw [hb] at hr; simp at hr; omega
  rw [this, if_neg (by decide), tabZ_has, if_neg (by decide)] at hK
  repeat first|(apply x1;apply r0;apply r0)|(apply x9;apply r0)|apply w6|apply w7|apply wa|apply w5|apply wg
  refine get_nil ?_
  repeat (apply x1;apply r0;apply r0)
  refine s_alloc tk rfl rfl rfl (fun b5 hb5 => ?_); have hb := hb5; (try simp only [put_none_iff, prot_none_iff] at hb); (repeat obtain ⟨_, _, hb⟩ := hb)
  (apply xst;apply r0;(apply ps);apply r0)
  rw [put_put]
  repeat first|(apply gO;first|(apply x1;apply r0;apply r0)|apply w4)|(apply gW;first|apply w6|apply w7|(apply w8;apply r0)|apply wd)|apply w5|apply we
  exact rt1 (H' := H) rfl rfl (.refl _) (by repeat first|exact s0|(apply su1;assumption)) hK
theorem resn_c {c : Cred} {path : ByteArray} {follow : Bool} {H : AHeap} {K : AVal → AHeap → Prop}
    (hK : K (.tup [.agg (encF Found.zero), .i (tabZ.fitsE path)]) H) : ACalls Try.prog 16 [.nilp, .agg (encCred c), .s path, .b follow] H K := by
  refine acalls_body Try.func16 rfl rfl rfl ?_
  repeat first|apply w6|apply w7
  refine s_box rfl rfl rfl (fun b5 hb5 => ?_); have hb := hb5; (try simp only [put_none_iff, prot_none_iff] at hb); (repeat obtain ⟨_, _, hb⟩ := hb)
  skip
  refine s_alloc tk rfl rfl rfl (fun b8 hb8 => ?_); have hb := hb8; (try simp only [put_none_iff, prot_none_iff] at hb); (repeat obtain ⟨_, _, hb⟩ := hb)
  repeat first|(apply x1;apply r0;apply r0)|(apply x9;apply r0)|apply w4|apply w6|apply w7|apply wk|apply w5
  refine fitsn_c ?_
  repeat first|(apply x1;apply r0;apply r0)|apply w4|apply w6|apply w7|apply w5
  refine aw_cond rfl (fun c1 => ?_) (fun c1 => ?_)<;>first|replace c1:=not_t c1|replace c1:=not_f c1
  · repeat first|(apply gO;first|(apply x1;apply r0;apply r0)|(apply xst;apply r0;(apply ps);apply r0)|(apply xbd;apply r0)|apply w4)|(apply gW;first|apply w6|apply w7|apply wd)|apply w5|apply we|apply wm
    exact rt2c (H' := H) rfl rfl (by apply q0) rfl (by rfl) rfl (by exact .pair (wk_agg rfl) (.refl _)) (by repeat first|exact s0|(apply su1;assumption)) hK
  exact absurd c1 (tabZ_fits path)
theorem cann_c {c : Cred} {i want : Int} {H : AHeap} {K : AVal → AHeap → Prop} (hK : K (.b false) H) :
    ACalls Try.prog 20 [.nilp, .agg (encCred c), .i i, .i want] H K := by
  refine acalls_body Try.func20 rfl rfl rfl ?_
  repeat first|apply w6|apply w7
  refine s_box rfl rfl rfl (fun b5 hb5 => ?_); have hb := hb5; (try simp only [put_none_iff, prot_none_iff] at hb); (repeat obtain ⟨_, _, hb⟩ := hb)
  repeat first|(apply x1;apply r0;apply r0)|(apply x9;apply r0)|apply w4|apply w6|apply w7|apply w5
  refine get_nil ?_
  repeat (apply x1;apply r0;apply r0)
  refine s_alloc tk rfl rfl rfl (fun b9 hb9 => ?_); have hb := hb9; (try simp only [put_none_iff, prot_none_iff] at hb); (repeat obtain ⟨_, _, hb⟩ := hb)
  (apply xst;apply r0;(apply ps);apply r0)
  rw [put_put]
  repeat first|(apply x1;apply r0;apply r0)|apply w4|(apply w3;apply r0;apply r0)|apply w6|apply w7|apply wd|apply w5
  exact rt1 (H' := H) rfl rfl (.refl _) (by repeat first|exact s0|(apply su1;assumption)) hK
theorem rrfitsn_c {path : ByteArray} (hp : path.size ≤ 16777200) {H : AHeap} {K : AVal → AHeap → Prop} (hK : K (.i (tabZ.fitsE path)) H) :
    ACalls Try.prog 51 [.agg (encT []), .s path] H K := by
  refine acalls_body Try.func51 rfl rfl rfl ?_
  unfold Tab.fitsE at hK
  repeat first|apply w6|apply w7
  refine s_box rfl rfl rfl (fun b2 hb2 => ?_); have hb := hb2; (try simp only [put_none_iff, prot_none_iff] at hb); (repeat obtain ⟨_, _, hb⟩ := hb)
  repeat first|(apply x1;apply r0;apply r0)|apply w4|apply w6|apply w7|apply w5
  refine aw_cond rfl (fun c1 => ?_) (fun c1 => ?_)<;>first|replace c1:=of_decide_eq_true c1|replace c1:=of_decide_eq_false c1
  · rw [if_pos c1] at hK
    repeat first|(apply x1;apply r0;apply r0)|apply w4|apply w6|apply w7|apply wd|apply w5|apply we
    exact rt1 (H' := H) rfl rfl (.refl _) (by repeat first|exact s0|(apply su1;assumption)) hK
  rw [if_neg c1] at hK
  repeat first|(apply x1;apply r0;apply r0)|apply w4|apply w6|apply w7|apply wa|apply w5
  refine aw_cond rfl (fun c2 => ?_) (fun c2 => ?_)<;>first|replace c2:=of_decide_eq_true c2|replace c2:=of_decide_eq_false c2
  · rw [if_pos c2] at hK
    repeat first|(apply x1;apply r0;apply r0)|apply w4|apply w6|apply w7|apply wd|apply w5|apply we
    exact rt1 (H' := H) rfl rfl (.refl _) (by repeat first|exact s0|(apply su1;assumption)) hK
  rw [if_neg c2] at hK
  repeat first|(apply x1;apply r0;apply r0)|(apply x9;apply r0)|apply w6|apply w7|apply wa|apply w5
  refine rhas_c (c := 0) rfl (by omega) ?_
  repeat first|(apply x1;apply r0;apply r0)|apply w4|apply w6|apply w7|apply w5
  refine aw_cond rfl (fun c3 => ?_) (fun c3 => ?_)
  · rw [if_pos c3] at hK
    repeat first|(apply x1;apply r0;apply r0)|apply w4|apply w6|apply w7|apply wd|apply w5|apply we
    exact rt1 (H' := H) rfl rfl (.refl _) (by repeat first|exact s0|(apply su1;assumption)) hK
  rw [c3, if_neg (by decide), tabZ_has, if_neg (by decide)] at hK
  repeat first|(apply x2;apply r0;(apply q0);apply r0)|(apply x9;apply r0)|apply w6|apply w7|apply wa|apply w5
  refine rget_c (l := []) (Nat.zero_le _) ?_
  rw [show rget [] 1 = Node.zero from rfl]
  skip
  refine s_field tk rfl rfl rfl rfl rfl rfl ?_
  repeat first|(apply gO;first|(apply x1;apply r0;apply r0)|apply w4)|(apply gW;first|apply w6|apply w7|(apply w8;apply r0)|apply wd)|apply w5|apply we
  exact rt1 (H' := H) rfl rfl (.refl _) (by repeat first|exact s0|(apply su1;assumption)) hK
theorem rresn_c {c : Cred} {path : ByteArray} (hp : path.size ≤ 16777200) {follow : Bool} {H : AHeap} {K : AVal → AHeap → Prop}
    (hK : K (.tup [.agg (encF Found.zero), .i (tabZ.fitsE path)]) H) : ACalls Try.prog 17 [.agg (encT []), .agg (encCred c), .s path, .b follow] H K := by
  refine acalls_body Try.func17 rfl rfl rfl ?_
  repeat first|apply w6|apply w7
  refine s_box rfl rfl rfl (fun b4 hb4 => ?_); have hb := hb4; (try simp only [put_none_iff, prot_none_iff] at hb); (repeat obtain ⟨_, _, hb⟩ := hb)
  skip
  refine s_box rfl rfl rfl (fun b5 hb5 => ?_); have hb := hb5; (try simp only [put_none_iff, prot_none_iff] at hb); (repeat obtain ⟨_, _, hb⟩ := hb)
  skip
  refine s_alloc tk rfl rfl rfl (fun b8 hb8 => ?_); have hb := hb8; (try simp only [put_none_iff, prot_none_iff] at hb); (repeat obtain ⟨_, _, hb⟩ := hb)
  repeat first|(apply x1;apply r0;apply r0)|(apply x2;apply r0;(with_reducible repeat first|assumption|apply q0|apply q3);apply r0)|(apply x9;apply r0)|apply w4|apply w6|apply w7|apply w5
  refine rrfitsn_c hp ?_
  repeat first|(apply x1;apply r0;apply r0)|apply w4|apply w6|apply w7|apply w5
  refine aw_cond rfl (fun c1 => ?_) (fun c1 => ?_)<;>first|replace c1:=not_t c1|replace c1:=not_f c1
  · repeat first|(apply gO;first|(apply x1;apply r0;apply r0)|(apply xst;apply r0;(apply ps);apply r0)|(apply xbd;apply r0)|apply w4)|(apply gW;first|apply w6|apply w7|apply wd)|apply w5|apply we
    exact rt2c (H' := H) rfl rfl (by apply q0) rfl (by rfl) rfl (by exact .pair (wk_agg rfl) (.refl _)) (by repeat first|exact s0|(apply su1;assumption)) hK
  exact absurd c1 (tabZ_fits path)
theorem wk1st {a a' b c d : AVal} (h : Wk a a') : Wk (.tup [a, b, c, d]) (.tup [a', b, c, d]) := .tup rfl (fun j h1 h2 => match j with | 0 => h | 1 => .refl _ | 2 => .refl _ | 3 => .refl _)
theorem resolveCan_c {room : Int} {l : List Raw} (hl : l.length ≤ 9223372036854775807) {c : Cred} {i want : Int} (hwant : in64 want) {path : ByteArray} {H : AHeap} {K : AVal → AHeap → Prop} (hK : K (.b true) H) :
    ACalls Try.prog 4 [.i room, .sl (encRaws l) .no, .agg (encCred c), .i i, .i want, .s path] H K := by
  refine acalls_body Try.func4 rfl rfl rfl ?_
  repeat first|apply w6|apply w7
  refine s_box rfl rfl rfl (fun b8 hb8 => ?_); have hb := hb8; (try simp only [put_none_iff, prot_none_iff] at hb); (repeat obtain ⟨_, _, hb⟩ := hb)
  repeat first|(apply x1;apply r0;apply r0)|(apply x9;apply r0)|apply w4|apply w6|apply w7|apply w5
  refine awake11_c ?_
  repeat first|(apply gO;first|(apply x1;apply r0;apply r0)|(apply x2;apply r0;(apply q0);apply r0)|(apply x9;apply r0)|apply w4)|(apply gW;first|apply w6|apply w7|(apply w9;apply r0)|apply wa)|apply w5
  refine built11_c hl ?_ (fun T t hB ht => ?_)
  · repeat first|(apply gO;first|(apply x1;apply r0;apply r0)|apply w4|(apply w3;apply r0;apply r0))|(apply gW;first|apply w6|apply w7|(apply w8;apply r0)|apply wd)|apply w5|apply we
    exact rt1 (H' := H) rfl rfl (.refl _) (by repeat first|exact s0|(apply su1;assumption)) hK
  have hg := hB.good
  have hc := hB.small
  have nb7 : b8 ≠ t := by
    have := (put_none_iff.1 ht)
    exact this.2.1
  have ht' : H t = none := (put_none_iff.1 ht).2.2
  repeat first|(apply x1;apply r0;apply r0)|(apply x5;apply r0)|apply w4|apply w6|apply w7|apply w5
  refine aw_cond rfl (fun g1 => ?_) (fun g1 => ?_)<;>first|replace g1:=of_decide_eq_true g1|replace g1:=of_decide_eq_false g1
  · repeat first|(apply x1;apply r0;apply r0)|apply w4|apply w6|apply w7|apply wd|apply w5|apply we
    exact rt1 (H' := H) rfl rfl (.refl _) (by repeat first|exact s0|(apply su1;assumption)) hK
  repeat first|(apply x1;apply r0;apply r0)|(apply x2;apply r0;(with_reducible repeat first|assumption|apply q0|apply q3);apply r0)|(apply x9;apply r0)|apply w6|apply w7|apply wa|apply w5
  refine resn_c ?_
  repeat (apply x1;apply r0;apply r0)
  refine s_alloc tk rfl rfl rfl (fun b16 hb16 => ?_); have hb := hb16; (try simp only [put_none_iff, prot_none_iff] at hb); (repeat obtain ⟨_, _, hb⟩ := hb)
  repeat first|(apply gO;first|(apply x1;apply r0;apply r0)|(apply x2;apply r0;(with_reducible repeat first|assumption|apply q0|apply ps|apply q3);apply r0)|(apply xst;apply r0;(with_reducible repeat first|assumption|apply q0|apply ps|apply q3);apply r0)|(apply xbd;apply r0)|(apply x9;apply r0)|apply w4)|(apply gW;first|apply w6|apply w7)|apply w5
  refine who11_c ?_
  repeat first|(apply x1;apply r0;apply r0)|(apply x9;apply r0)
  refine ACalls.wk (rresn_c (path := path) (by omega) ?_) (wk1st (wk_agg rfl))
  repeat (apply x1;apply r0;apply r0)
  refine s_alloc tk rfl rfl rfl (fun b18 hb18 => ?_); have hb := hb18; (try simp only [put_none_iff, prot_none_iff] at hb); (repeat obtain ⟨_, _, hb⟩ := hb)
  repeat first|(apply x1;apply r0;apply r0)|(apply xst;apply r0;(apply ps);apply r0)|apply w4|apply w6|apply w5
  refine aw_prot [b8, b16, b18, t] (allc (by with_reducible repeat first|assumption|apply q0|apply q3) (allc (by with_reducible repeat first|assumption|apply q0|apply q3) (allc (by apply q0) (allc (by with_reducible repeat first|assumption|apply q0|apply q3) (allc0 _))))) ?_
  refine aw_plan mixed (.take 0 (.take 1 (.take 2 (.take 3 (.take 5 (.take 7 (.take 9 (.take 10 (.one 4 (.one 6 (.one 8 (.one 11 (.take 12 (.take 13 (.take 14 (.take 15 (.take 16 (.take 17 (.take 18 (.take 19 (.take 20 (.take 21 (.take 22 (.take 23 (.one 24 (.take 25 (.take 26 (.take 27 (.take 28 (.take 29 (.take 30 (.take 31 (.take 32 (.take 33 (.take 34 (.one 35 (.take 36 (.take 37 (.take 38 .done))))))))))))))))))))))))))))))))))))))) (by kernel_rfl) ?_
  repeat first|(apply x9;apply r0)|(apply y1;apply r0;apply r0)|(apply y4;apply r0)|(apply y2;apply r0;apply r0;(with_reducible repeat first|assumption|apply q0|apply pg|apply q3|exact mm0);apply r0)
  refine can1_c hg.wf hc (by with_reducible repeat first|assumption|apply q0|apply q4|apply q3) ?_
  repeat first|(apply x9;apply r0)|apply w4|(apply y4;apply r0)
  refine tree11_c hg (by with_reducible repeat first|assumption|apply q0|apply q4|apply q3) (fun L hL hLl => ?_)
  repeat first|(apply x9;apply r0)|apply w4|(apply y4;apply r0)
  refine who11_c ?_
  repeat first|(apply x9;apply r0)|apply w4|(apply y4;apply r0)
  refine rcan1_c hL hc hwant ?_
  repeat first|apply w4|(apply y1;apply r0;apply r0)
  refine d_split rfl rfl rfl (fun e1 => ?_) (fun e1 => ?_)<;>first|replace e1:=of_decide_eq_true e1|replace e1:=of_decide_eq_false e1
  case refine_2 => exact (e1 rfl).elim
  repeat first|(apply y1;apply r0;apply r0)|(apply take1_ok;apply r0)
  refine d_split rfl rfl rfl (fun e2 => ?_) (fun e2 => ?_)<;>first|replace e2:=of_decide_eq_true e2|replace e2:=of_decide_eq_false e2
  case refine_2 => exact (e2 rfl).elim
  repeat first|(apply y1;apply r0;apply r0)|(apply take1_ok;apply r0)
  refine d_split rfl rfl rfl (fun e3 => ?_) (fun e3 => ?_)<;>first|replace e3:=not_t e3|replace e3:=not_f e3
  case refine_2 => exact absurd e3 (tabZ_fits path)
  repeat first|(apply x5;apply r0)|(apply xbd;apply r0)|apply w4|(apply y4;apply r0)|(apply y2;apply r0;apply r0;(with_reducible repeat first|assumption|apply q0|apply pg|apply q3|exact mm0|apply mm1);apply r0)
  refine d_stab rfl rfl rfl (pures_eqagg (r := true) tk (.inl rfl) rfl rfl rfl (by kernel_rfl) rfl).stab ?_
  repeat first|(apply x5;apply r0)|(apply x9;apply r0)|(apply y1;apply r0;apply r0)|(apply take1_ok;apply r0)|(apply y4;apply r0)|(apply y2;apply r0;apply r0;(with_reducible repeat first|assumption|apply q0|apply pg|apply q3|exact mm0|apply mm1);apply r0)
  refine cann_c ?_
  repeat first|apply w4|(apply y1;apply r0;apply r0)|apply y0|(apply take1_ok;apply r0)
  refine prot_done ?_
  repeat first|apply wd|apply w5
  exact rt1 (H' := H) rfl rfl (.refl _) (by repeat first|exact s0|(apply su1;assumption)) hK
end Abs
end Go.Proofs.Ytmokoofibnoojaa
