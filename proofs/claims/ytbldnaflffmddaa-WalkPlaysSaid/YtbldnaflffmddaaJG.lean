import Derived.Test.YtbldnaflffmddaaJF
set_option linter.unusedVariables false
namespace Go.Proofs.Ytbldnaflffmddaa
namespace Abs
set_option linter.unusedSimpArgs false
set_option maxRecDepth 10000
set_option maxHeartbeats 2000000
attribute [local irreducible] AOps AW AP ACalls thenQ inBlk noGoto

/-! ### package walk: Next -/
theorem sub_at {H Y : AHeap} {b : Nat} {o : HObj} (hb : Y b = some o) (hx : ∀ x, x ≠ b → H x ≠ none → Y x = H x) : (H.put b o).sub Y := fun x p h => by
  by_cases e : x = b
  · subst e
    rw [put_same] at h; cases h
    exact ⟨_, hb, .refl _⟩
  · rw [put_ne e] at h
    exact ⟨p, by rw [hx x e (by rw [h]; simp)]; exact h, .refl _⟩
theorem wnext_c {bw bd bh bm : Nat} {w : Wkr} {H : AHeap} (hw : WkAt H bw bd bh bm w) {K : AVal → AHeap → Prop} (h0 : w.left = [] → K (.tup [.agg (encItm Itm.zero), .b false]) H)
    (h1 : ∀ i l, w.left = i :: l → K (.tup [.agg (encItm i), .b true]) (H.put bw (.cells (encWk { w with left := l, last := i, begun := true } bd bh bm)))) : ACalls Try.prog 12 [.ptr bw 0] H K := by
  refine acalls_body Try.func12 rfl rfl rfl ?_
  have hc0 := hw.cells
  repeat first|apply w6|apply w7
  refine s_alloc tk rfl rfl rfl (fun b2 hb2 => ?_); have hb := hb2; (try simp only [put_none_iff, prot_none_iff] at hb); (repeat obtain ⟨_, _, hb⟩ := hb)
  repeat first|(apply x1;apply r0;apply r0)|(apply x9;apply r0)|apply w4|apply w6|apply w7|apply w5
  refine left_c (hw.other hb2 _) ?_
  repeat first|(apply x1;apply r0;apply r0)|apply w4|apply w5
  refine aw_cond rfl (fun c => ?_) (fun c => ?_)<;>first|replace c:=of_decide_eq_true c|replace c:=of_decide_eq_false c
  · have hn : w.left = [] := List.length_eq_zero_iff.1 (by omega)
    repeat first|(apply gO;first|(apply x1;apply r0;apply r0)|(apply xst;apply r0;(apply ps);apply r0)|(apply xbd;apply r0)|apply w4)|(apply gW;first|apply w6|apply w7|apply wd)|apply w5|apply we
    exact rt2c (H' := H) rfl rfl (by apply q0) rfl (by rfl) rfl (by exact .refl _) (by repeat first|exact s0|(apply su1;assumption)) (h0 hn)
  obtain ⟨i, l, hl⟩ : ∃ i l, w.left = i :: l := by
    cases h : w.left with
    | nil => rw [h] at c; exact absurd rfl c
    | cons i l => exact ⟨i, l, rfl⟩
  have hK := h1 i l hl
  have nw2 : bw ≠ b2 := get_ne hc0 hb2
  have hcl : encWk w bd bh bm = [.b w.deep, .clo 36 [] [.ptr bd 0, .ptr bh 0], .sl (encItms (i :: l)) .no, .s w.last.path, .b w.last.op, .b w.last.fo, .b w.begun, .mapv bm] := by unfold encWk encWkO; rw [hl]
  rw [hcl] at hc0
  have hget : (encItms (i :: l))[(0 : Int).toNat]? = some (encItm i) := rfl
  repeat first|apply w6|apply wa|apply w5
  refine aw_plan mixed (.take 0 (.take 1 (.take 2 (.take 3 (.take 4 (.take 8 (.take 9 (.take 10 (.two 5 11 (.take 6 (.take 7 (.one 11 (.take 12 (.take 13 (.take 14 (.one 15 (.take 16 (.take 17 (.one 18 .done)))))))))) (.take 12 (.one 5 (.take 6 (.take 7 (.take 13 (.take 14 (.one 15 (.take 16 (.take 17 (.one 18 .done))))))))))))))))))) (by kernel_rfl) ?_
  repeat (apply y1;apply r0;apply r0)
  refine e_two rfl rfl ?_ ?_
  · repeat first|(apply x2;apply r0;(with_reducible repeat first|assumption|exact q1 ‹_›|apply q3);apply r0)|apply w4
    refine d_index rfl rfl rfl rfl rfl rfl (by decide) hget rfl ?_
    repeat first|(apply x2;apply r0;(with_reducible repeat first|assumption|exact q1 ‹_›|apply q3);apply r0)|apply w4|(apply y4;apply r0)|(apply y3;apply r0;apply r0)
    refine d_stab rfl rfl rfl (pures_slice_sl (l := 1) (h := (((encItms (i :: l)).length : Nat) : Int)) tk rfl rfl (itms_uni _) rfl rfl (by decide) (by rw [itms_len, List.length_cons]; omega) (Int.le_refl _)).stab ?_
    rw [show ((encItms (i :: l)).take ((((encItms (i :: l)).length : Nat) : Int)).toNat).drop (1 : Int).toNat = encItms l by rw [Int.toNat_natCast, List.take_length]; rfl]
    repeat first|(apply gO;first|(apply x1;apply r0;apply r0)|(apply x2;apply r0;(with_reducible repeat first|assumption|apply q0|apply ps|apply gp|exact n4 ‹_› ‹_›);apply r0)|(apply xst;apply r0;(with_reducible repeat first|assumption|apply q0|apply ps|apply gp|exact n4 ‹_› ‹_›);apply r0)|apply w4)|(apply gP;first|(apply y1;apply r0;apply r0)|apply y0|(apply y4;apply r0))|(apply gW;first|apply w6|apply w7|apply wd)|apply w5
    exact rt2c (H' := H.put bw (.cells (encWk { w with left := l, last := i, begun := true } bd bh bm))) rfl rfl (by apply q0) rfl (by rfl) rfl (by exact .refl _) (sub_at (by apply get_eq;(focus with_reducible repeat first|assumption|apply ps|apply gp);rfl) (fun x h2 h3 => by
      have h4 : x ≠ b2 := fun e => h3 (e ▸ hb2)
      simp only [AHeap.put, if_neg h2, if_neg h4])) hK
  · repeat first|(apply x2;apply r0;(with_reducible repeat first|assumption|exact q1 ‹_›|apply q3);apply r0)|apply w4
    refine d_stab rfl rfl rfl (pures_slice_sl (l := 1) (h := (((encItms (i :: l)).length : Nat) : Int)) tk rfl rfl (itms_uni _) rfl rfl (by decide) (by rw [itms_len, List.length_cons]; omega) (Int.le_refl _)).stab ?_
    rw [show ((encItms (i :: l)).take ((((encItms (i :: l)).length : Nat) : Int)).toNat).drop (1 : Int).toNat = encItms l by rw [Int.toNat_natCast, List.take_length]; rfl]
    repeat first|(apply x2;apply r0;(with_reducible repeat first|assumption|exact q1 ‹_›|apply q3);apply r0)|apply w4|(apply y4;apply r0)
    refine d_index rfl rfl rfl rfl rfl rfl (by decide) hget rfl ?_
    repeat first|(apply gO;first|(apply x1;apply r0;apply r0)|(apply x2;apply r0;(with_reducible repeat first|assumption|apply q0|apply ps|apply gp|exact n4 ‹_› ‹_›);apply r0)|(apply xst;apply r0;(with_reducible repeat first|assumption|apply q0|apply ps|apply gp|exact n4 ‹_› ‹_›);apply r0)|apply w4)|(apply gP;first|(apply y1;apply r0;apply r0)|apply y0|(apply y4;apply r0)|(apply y3;apply r0;apply r0))|(apply gW;first|apply w6|apply w7|apply wd)|apply w5
    exact rt2c (H' := H.put bw (.cells (encWk { w with left := l, last := i, begun := true } bd bh bm))) rfl rfl (by apply q0) rfl (by rfl) rfl (by exact .refl _) (sub_at (by apply get_eq;(focus with_reducible repeat first|assumption|apply ps|apply gp);rfl) (fun x h2 h3 => by
      have h4 : x ≠ b2 := fun e => h3 (e ▸ hb2)
      simp only [AHeap.put, if_neg h2, if_neg h4])) hK
end Abs
end Go.Proofs.Ytbldnaflffmddaa
