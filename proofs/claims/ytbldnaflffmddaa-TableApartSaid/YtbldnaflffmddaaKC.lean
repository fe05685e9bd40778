import Derived.Test.YtbldnaflffmddaaKB
set_option linter.unusedVariables false
namespace Go.Proofs.Ytbldnaflffmddaa
namespace Abs
set_option linter.unusedSimpArgs false
set_option maxRecDepth 10000
set_option maxHeartbeats 2000000
attribute [local irreducible] AOps AW AP ACalls thenQ inBlk noGoto

/-! ### a node whose bytes are a row, added -/
theorem del_put_subW {X : AHeap} {b : Nat} {C : HObj} (h : X b = none) : X.sub ((X.put b C).del b) := fun x o hx => by
  have hne : x ≠ b := fun e => by rw [e, h] at hx; cases hx
  exact ⟨o, by simp [AHeap.del, put_ne hne, hne, hx], .refl o⟩
theorem clone_rb {ys : List (List AVal)} {b0 cap0 : Nat} {cs0 : List AVal} {H : AHeap} {K : AVal → AHeap → Prop} (hu : Uni 1 ys) (hne : 0 < ys.length) (hl : ys.length ≤ 1073741824) (hH : H b0 = some (.cells cs0)) (hcs : cs0.take (ys.length * 1) = ys.flatten) (hK : K (.sl ys .no) H) :
    ACalls Try.prog 61 [.row b0 0 ys.length cap0] H K := by
  refine acalls_body Try.func61 rfl rfl rfl ?_
  repeat first|(apply x1;apply r0;apply r0)|apply w4|apply w6|apply w7|apply w5
  refine s_rownil tk rfl rfl rfl ?_
  repeat first|(apply gO;first|(apply x1;apply r0;apply r0)|(apply xbs;apply r0)|apply w4)|(apply gW;first|apply w6|apply w7|(apply w9;apply r0)|apply wa)|apply w5
  refine s_append_rr (ys := ys) tk rfl rfl rfl hH rfl hcs rfl rfl rfl rfl hu hne (by omega) (fun b2 cap hb2 hcap => ?_)
  refine aops_close (d := 7) (rows := ys) (es := 1) rfl (put_same _ _ _) (by decide) hu rfl (by rw [List.drop_zero, List.take_left' hu.len]) (by omega) hcap (by rw [List.length_append, hu.len, rep_len]; simp only [List.length_cons, List.length_nil]; omega) ?_
  refine AOps_sub ?_ (Fr.sub_refl _) (del_put_subW hb2)
  repeat first|(apply x1;apply r0;apply r0)|apply w4|apply wd|apply w5
  exact rt1 (H' := H) rfl rfl (.refl _) (AHeap.sub_refl _) hK
def dM : ByteArray := ⟨#[1, 2]⟩
def nM : Node := ⟨1, 0, 0, 0, dM, [], ⟨#[]⟩⟩
theorem nM_small : nM.small := ⟨by decide, by decide⟩
theorem nM_ok : nodeOk nM = true := by decide
def rowM (b0 cap0 : Nat) (o : Own) : List AVal := [.i 1, .i 0, .i 0, .i 0, .row b0 0 2 cap0, .sl [] o, .s ⟨#[]⟩]
theorem own_rM {b0 cap0 : Nat} {o : Own} {H : AHeap} {K : AVal → AHeap → Prop} (hH : H b0 = some (.cells [.sc (.int .u8 1), .sc (.int .u8 2)])) (hK : K (.agg (encNode nM)) H) : ACalls Try.prog 50 [.agg (rowM b0 cap0 o)] H K := by
  refine acalls_body Try.func50 rfl rfl rfl ?_
  unfold rowM
  repeat first|apply w6|apply w7
  refine s_box rfl rfl rfl (fun b1 hb1 => ?_); have hb := hb1; (try simp only [put_none_iff, prot_none_iff] at hb); (repeat obtain ⟨_, _, hb⟩ := hb)
  skip
  refine s_alloc tk rfl rfl rfl (fun b2 hb2 => ?_); have hb := hb2; (try simp only [put_none_iff, prot_none_iff] at hb); (repeat obtain ⟨_, _, hb⟩ := hb)
  repeat first|(apply x1;apply r0;apply r0)|(apply x2;apply r0;(with_reducible repeat first|assumption|apply q0|apply q3);apply r0)|(apply x9;apply r0)|apply w4|apply w6|apply w7|apply w5
  refine clone_rb (ys := [[.sc (.int .u8 1)], [.sc (.int .u8 2)]]) (cs0 := [.sc (.int .u8 1), .sc (.int .u8 2)]) (fun x hx => by simp only [List.mem_cons, List.not_mem_nil, or_false] at hx; rcases hx with rfl | rfl <;> rfl) (by decide) (by decide) (by with_reducible repeat first|assumption|apply gp|exact n2 ‹_› ‹_›) rfl ?_
  repeat first|(apply gO;first|(apply x1;apply r0;apply r0)|(apply x2;apply r0;(with_reducible repeat first|assumption|apply q0|apply ps|apply gp);apply r0)|(apply xst;apply r0;(with_reducible repeat first|assumption|apply q0|apply ps|apply gp);apply r0)|(apply x9;apply r0)|apply w4)|(apply gW;first|apply w6|apply w7)|apply w5
  refine clone_ents (xs := []) (uni_ents []) (flat_ents []) (by decide) ?_
  repeat first|(apply gO;first|(apply x1;apply r0;apply r0)|(apply x2;apply r0;(with_reducible repeat first|assumption|apply q0|apply ps|apply gp);apply r0)|(apply xst;apply r0;(with_reducible repeat first|assumption|apply q0|apply ps|apply gp);apply r0)|apply w4)|(apply gW;first|apply w6|apply w7|apply wd)|apply w5
  exact rt1c (H' := H) rfl rfl (by apply q0) rfl (by rfl) (by exact .refl _) (by repeat first|exact s0|(apply su1;assumption)) hK
theorem right_rM {b0 cap0 : Nat} {o : Own} {H : AHeap} {K : AVal → AHeap → Prop} (hK : K (.b true) H) : ACalls Try.prog 53 [.agg (rowM b0 cap0 o)] H K := by
  refine acalls_body Try.func53 rfl rfl rfl ?_
  unfold rowM
  repeat first|apply w6|apply w7
  refine s_box rfl rfl rfl (fun b1 hb1 => ?_); have hb := hb1; (try simp only [put_none_iff, prot_none_iff] at hb); (repeat obtain ⟨_, _, hb⟩ := hb)
  repeat first|(apply gO;first|(apply x1;apply r0;apply r0)|(apply x2;apply r0;(apply q0);apply r0)|(apply x5;apply r0)|(apply x9;apply r0)|apply w4)|(apply gW;first|apply w6|apply w7)|apply w5
  refine id_c ?_
  repeat first|(apply x1;apply r0;apply r0)|(apply x2;apply r0;(apply q0);apply r0)|(apply x5;apply r0)|(apply x9;apply r0)
  refine id_c ?_
  repeat first|(apply gO;first|(apply x1;apply r0;apply r0)|(apply x2;apply r0;(apply q0);apply r0)|(apply x5;apply r0)|apply w4)|(apply gW;first|apply w6|apply w7|(apply w8;apply r0)|(apply w9;apply r0)|apply wa|apply wd|apply wb)|apply w5|apply we|apply wj
  exact rt1 (H' := H) rfl rfl (by exact .refl _) (by repeat first|exact s0|(apply su1;assumption)) hK
theorem add_rM {t : Nat} {T : Tab} (hw : T.wf) {b0 cap0 : Nat} {o : Own} {H : AHeap} (hT : H t = some (.cells (encTab T))) (hH : H b0 = some (.cells [.sc (.int .u8 1), .sc (.int .u8 2)])) {K : AVal → AHeap → Prop}
    (h1 : ∀ k : Nat, (k : Int) < T.room → (∀ j : Nat, j < k → T.has (j + 1) = true) → T.has (k + 1) = false → K (.tup [.i (k + 1), .i 0]) (H.put t (.cells (encTab (T.put k nM)))))
    (h2 : (∀ j : Nat, (j : Int) < T.room → T.has (j + 1) = true) → K (.tup [.i 0, .i 28]) H) : ACalls Try.prog 35 [.ptr t 0, .agg (rowM b0 cap0 o)] H K := by
  refine acalls_body Try.func35 rfl rfl rfl ?_
  have hrm := hw.2.1
  repeat first|apply w6|apply w7
  refine s_box rfl rfl rfl (fun b3 hb3 => ?_); have hb := hb3; (try simp only [put_none_iff, prot_none_iff] at hb); (repeat obtain ⟨_, _, hb⟩ := hb)
  have hne : t ≠ b3 := ne_of_get hb3 hT
  have hn0 : b0 ≠ b3 := ne_of_get hb3 hH
  repeat first|(apply x1;apply r0;apply r0)|(apply x2;apply r0;(apply q0);apply r0)|(apply x9;apply r0)|apply w4|apply w6|apply w7|apply w5
  refine right_rM (b0 := b0) (cap0 := cap0) (o := o) ?_
  repeat first|(apply gO;first|(apply x1;apply r0;apply r0)|(apply x9;apply r0)|apply w4)|(apply gW;first|apply w6|apply w7|(apply w9;apply r0)|apply wa)|apply w5
  refine room_c (T := T) (.inl (by rw [put_ne hne]; exact hT)) ?_
  repeat first|(apply x1;apply r0;apply r0)|apply w4|apply wb|apply w5
  refine aw_loop (fun k : Nat => (k : Int) ≤ T.room ∧ ∀ j : Nat, j < k → T.has (j + 1) = true) (fun k => [(0, .ptr t 0), (3, .ptr b3 0), (11, .i T.room), (12, .i k)]) (fun _ => H.put b3 (.cells (rowM b0 cap0 o))) (fun k => T.room.toNat - k) 0 ⟨by omega, fun j hj => absurd hj (Nat.not_lt_zero _)⟩ (by repeat (first | exact Fr.sub_nil _ | refine Fr.sub_cons rfl ?_)) (AHeap.sub_refl _) ?_
  intro k ⟨hk, hall⟩
  repeat first|(apply x1;apply r0;apply r0)|apply w4|apply w6|apply w7|apply w5
  refine aw_cond rfl (fun c => ?_) (fun c => ?_)<;>first|replace c:=of_decide_eq_true c|replace c:=of_decide_eq_false c
  · have c' : (k : Int) < T.room := c
    repeat first|(apply gO;first|(apply x1;apply r0;apply r0)|(apply x9;apply r0)|apply w4|(apply x6;apply r0;omega))|(apply gW;first|apply w6|apply w7|apply wa|apply wb)|apply w5
    refine at_c hw (.inl (by rw [put_ne hne]; exact hT)) (fun hh => ?_) (fun hh => ?_)
    · repeat first|(apply gO;first|(apply x1;apply r0;apply r0)|apply w4|(apply x6;apply r0;omega))|(apply gW;first|apply w7|(apply w9;apply r0)|apply wa)|apply w5|apply wg
      refine ⟨k + 1, ⟨by omega, fun j hj => ?_⟩, by omega, (by repeat (first | exact Fr.sub_nil _ | refine Fr.sub_cons rfl ?_)), AHeap.sub_refl _⟩
      rcases Nat.lt_or_ge j k with hj' | hj'
      · exact hall j hj'
      · have : j = k := by omega
        subst this; exact hh
    · repeat first|(apply x1;apply r0;apply r0)|apply w4|apply w6|(apply w8;apply r0)|apply w5
      have htb : t ∉ [b3] := by simpa using hne
      have h0b : b0 ∉ [b3] := by simpa using hn0
      refine aw_prot [b3] (allc (.inl (put_same _ _ _)) (allc0 _)) ?_
      refine aw_plan mixed (.take 0 (.take 1 (.take 2 (.take 4 (.take 5 (.one 3 (.take 6 (.one 7 .done)))))))) (by kernel_rfl) ?_
      repeat first|(apply x9;apply r0)|(apply y1;apply r0;apply r0)|(apply y4;apply r0)|(apply y2;apply r0;apply r0;(with_reducible repeat first|apply q0|apply pg|exact mm0);apply r0)
      refine own_rM (b0 := b0) (cap0 := cap0) (o := o) (by rw [prot_other h0b, put_ne hn0]; exact hH) ?_
      repeat apply w4
      have hkl : k < T.nodes.length := by have := hw.1; omega
      refine d_indexa rfl rfl rfl rfl rfl rfl rfl (by omega) (by omega) ?_
      repeat (apply y4;apply r0)
      refine s_storea tk rfl rfl (by rw [prot_other htb, put_ne hne]; exact hT) rfl rfl (by rw [encTab_len _ hw.1]; omega) rfl (encTab_put T k nM hkl) ?_
      repeat first|apply w4|apply y0
      refine prot_done_put htb ?_
      repeat first|(apply gO;first|(apply x1;apply r0;apply r0)|apply w4|(apply x6;apply r0;omega))|(apply gW;first|apply w6|apply w7|apply wd)|apply w5|apply we|apply wj
      exact rt2 (H' := H.put t (.cells (encTab (T.put k nM)))) rfl rfl rfl (.refl _) (AHeap.put_sub (sub_new hb3 (AHeap.sub_refl _)) _ _) (h1 k c' hall hh)
  · have hkr : (k : Int) = T.room := by omega
    repeat first|(apply gO;first|(apply x1;apply r0;apply r0)|apply w4)|(apply gW;first|apply w6|apply w7|apply wd|apply wc)|apply w5|apply wf|apply wh
    exact rt2 rfl rfl rfl (.refl _) (sub_new hb3 (AHeap.sub_refl _)) (h2 (fun j hj => hall j (by omega)))
end Abs
end Go.Proofs.Ytbldnaflffmddaa
