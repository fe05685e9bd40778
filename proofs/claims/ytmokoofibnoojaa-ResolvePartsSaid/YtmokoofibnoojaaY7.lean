import Derived.Test.YtmokoofibnoojaaY5
import Derived.Test.YtmokoofibnoojaaZ6
import Derived.Test.YtmokoofibnoojaaV1
set_option linter.unusedVariables false
namespace Go.Proofs.Ytmokoofibnoojaa
namespace Abs
set_option linter.unusedSimpArgs false
set_option maxRecDepth 10000
set_option maxHeartbeats 2000000
attribute [local irreducible] AOps AW AP ACalls thenQ inBlk noGoto

/-! ### ResolveParts -/
theorem last_none {s : ByteArray} {ch : UInt8} (h : (byL s)[s.size - 1]? = some ch) (hn : ¬ ((ch.toNat : Nat) : Int) = 47) : (byL s).getLast? ≠ some 47 := fun e => by
  rw [List.getLast?_eq_getElem?, byL_len, h] at e
  cases e
  exact hn rfl
theorem resolveParts_c {room : Int} {l : List Raw} (hl : l.length ≤ 9223372036854775807) {c : Cred} {path name : ByteArray} {H : AHeap} {K : AVal → AHeap → Prop} (hK : K (.b true) H) :
    ACalls Try.prog 7 [.i room, .sl (encRaws l) .no, .agg (encCred c), .s path, .s name] H K := by
  refine acalls_body Try.func7 rfl rfl rfl ?_
  repeat first|apply w6|apply w7
  refine s_box rfl rfl rfl (fun b7 hb7 => ?_); have hb := hb7; (try simp only [put_none_iff, prot_none_iff] at hb); (repeat obtain ⟨_, _, hb⟩ := hb)
  repeat first|(apply x1;apply r0;apply r0)|(apply x9;apply r0)|apply w4|apply w6|apply w7|apply w5
  refine awake11_c ?_
  repeat first|(apply gO;first|(apply x1;apply r0;apply r0)|(apply x2;apply r0;(apply q0);apply r0)|(apply x9;apply r0)|apply w4)|(apply gW;first|apply w6|apply w7|(apply w9;apply r0)|apply wa)|apply w5
  refine built11_c hl ?_ (fun T t hB ht => ?_)
  · repeat first|(apply gO;first|(apply x1;apply r0;apply r0)|apply w4|(apply w3;apply r0;apply r0))|(apply gW;first|apply w6|apply w7|(apply w8;apply r0)|apply wd)|apply w5|apply we
    exact rt1 (H' := H) rfl rfl (.refl _) (by repeat first|exact s0|(apply su1;assumption)) hK
  have hg := hB.good
  have hc := hB.small
  have htr := build_tree hB.tree
  have nb7 : b7 ≠ t := by
    have := (put_none_iff.1 ht)
    exact this.2.1
  have ht' : H t = none := (put_none_iff.1 ht).2.2
  repeat first|(apply x1;apply r0;apply r0)|(apply x5;apply r0)|apply w4|apply w6|apply w7|apply w5
  refine s_gsplit rfl rfl (fun g1 => ?_) (fun g1 => ?_)<;>first|replace g1:=of_decide_eq_true g1|replace g1:=of_decide_eq_false g1
  · repeat first|(apply gO;first|(apply x1;apply r0;apply r0)|apply w4|(apply w3;apply r0;apply r0))|(apply gW;first|apply w6|apply w7|(apply w8;apply r0)|apply wd)|apply w5|apply we
    exact rt1 (H' := H) rfl rfl (.refl _) (by repeat first|exact s0|(apply su1;assumption)) hK
  repeat first|(apply x1;apply r0;apply r0)|(apply x5;apply r0)
  refine s_gsplit rfl rfl (fun g2 => ?_) (fun g2 => ?_)<;>first|replace g2:=of_decide_eq_true g2|replace g2:=of_decide_eq_false g2
  · repeat first|(apply gO;first|(apply x1;apply r0;apply r0)|apply w4|(apply w3;apply r0;apply r0))|(apply gW;first|apply w6|apply w7|(apply w8;apply r0)|apply wd)|apply w5|apply we
    exact rt1 (H' := H) rfl rfl (.refl _) (by repeat first|exact s0|(apply su1;assumption)) hK
  have g1' : path.size ≤ 40 := by omega
  have g2' : name.size ≤ 20 := by omega
  repeat first|(apply x1;apply r0;apply r0)|(apply x5;apply r0)|(apply x9;apply r0)
  refine name_c ?_
  rcases hnm : nameOk name
  · repeat first|(apply gO;first|(apply x1;apply r0;apply r0)|(apply x5;apply r0)|apply w4|(apply w3;apply r0;apply r0))|(apply gW;first|apply w6|apply w7|(apply w8;apply r0)|apply wd)|apply w5|apply we
    exact rt1 (H' := H) rfl rfl (.refl _) (by repeat first|exact s0|(apply su1;assumption)) hK
  repeat first|(apply x1;apply r0;apply r0)|(apply x5;apply r0)
  refine s_gsplit rfl rfl (fun g3 => ?_) (fun g3 => ?_)<;>first|replace g3:=of_decide_eq_true g3|replace g3:=of_decide_eq_false g3
  · repeat first|(apply gO;first|(apply x1;apply r0;apply r0)|apply w4|(apply w3;apply r0;apply r0))|(apply gW;first|apply w6|apply w7|(apply w8;apply r0)|apply wd)|apply w5|apply we
    exact rt1 (H' := H) rfl rfl (.refl _) (by repeat first|exact s0|(apply su1;assumption)) hK
  have h0 : 0 < path.size := by
    rcases Nat.eq_zero_or_pos path.size with h | h
    · have hb0 : byL path = [] := List.length_eq_zero_iff.1 (by rw [byL_len]; exact h)
      exact absurd (by rw [← ofL_byL path, hb0]; rfl) g3
    · exact h
  have hix : path.size - 1 < (byL path).length := by rw [byL_len]; omega
  have hget : (byL path)[path.size - 1]? = some (byL path)[path.size - 1] := List.getElem?_eq_getElem hix
  generalize (byL path)[path.size - 1] = ch at hget
  have hgi : path.data.toList[((path.size : Int) - 1).toNat]? = some ch := by rw [show ((path.size : Int) - 1).toNat = path.size - 1 by omega]; exact hget
  repeat first|(apply x1;apply r0;apply r0)|(apply x5;apply r0)|(apply x7;apply r0;omega)
  refine s_indexs tk rfl rfl rfl rfl (by omega) hgi ?_
  repeat first|(apply x1;apply r0;apply r0)|(apply x5;apply r0)|apply w4|apply w5
  refine aw_cond rfl (fun g4 => ?_) (fun g4 => ?_)<;>first|replace g4:=of_decide_eq_true g4|replace g4:=of_decide_eq_false g4
  · repeat first|(apply x1;apply r0;apply r0)|apply w4|apply w6|apply w7|apply wd|apply w5|apply we
    exact rt1 (H' := H) rfl rfl (.refl _) (by repeat first|exact s0|(apply su1;assumption)) hK
  have hP := resolve_parts hg htr (c := c) g3 g1' (last_none hget g4) hnm
  repeat first|(apply x1;apply r0;apply r0)|(apply x2;apply r0;(with_reducible repeat first|assumption|apply q0|apply q3);apply r0)|(apply x9;apply r0)|apply w6|apply w7|apply wa|apply w5
  refine resolve_c hg hc (by apply q0) ?_
  repeat (apply x1;apply r0;apply r0)
  refine s_alloc tk rfl rfl rfl (fun b14 hb14 => ?_); have hb := hb14; (try simp only [put_none_iff, prot_none_iff] at hb); (repeat obtain ⟨_, _, hb⟩ := hb)
  (apply xst;apply r0;(apply ps);apply r0)
  generalize hY : AHeap.put _ b14 _ = Y
  have y14 : Y b14 = some (.cells (encF (T.resolve c path true).1)) := by rw [← hY]; exact (by apply get_eq;(focus apply ps);rfl)
  have y7' : Rd Y b7 (encCred c) := by rw [← hY]; exact (by apply rd_eq;(focus with_reducible repeat first|assumption|apply q0|apply q3);rfl)
  have yT : Rd Y t (encTab T) := by rw [← hY]; exact (by apply rd_eq;(focus with_reducible repeat first|assumption|apply q0|apply q3);rfl)
  have ys : H.sub Y := by rw [← hY]; exact (by repeat first|exact s0|(apply su1;assumption))
  clear hY
  repeat first|(apply x1;apply r0;apply r0)|apply w4|apply w6|apply w5
  repeat apply w6
  refine aw_cutS (fun F' H' => ∃ b16, Y b16 = none ∧ Fr.sub [(4, .s name), (7, .ptr b7 0), (12, .ptr t 0), (14, .ptr b14 0), (15, .i (T.resolve c path true).2), (16, .ptr b16 0), (17, .i (T.resolve c (joinOf path name) false).2)] F' ∧ (Y.put b16 (.cells (encF (T.resolve c (joinOf path name) false).1))).sub H') ?_ ?_
  · refine aw_prot [b7] (allc (by with_reducible assumption) (allc0 _)) ?_
    refine aw_plan mixed (.take 0 (.take 1 (.take 2 (.take 3 (.two 4 9 (.two 5 9 (.take 6 (.take 7 (.take 8 (.one 9 (.one 10 (.take 11 .done)))))) (.one 5 (.take 6 (.take 7 (.take 8 (.one 10 (.take 11 .done))))))) (.one 4 (.one 5 (.take 6 (.take 7 (.take 8 (.one 10 (.take 11 .done)))))))))))) (by kernel_rfl) ?_
    repeat first|(apply y1;apply r0;apply r0)|(apply y2;apply r0;apply r0;(with_reducible repeat first|assumption|apply pg|exact mm0);apply r0)
    refine e_two rfl rfl ?_ ?_
    · repeat (apply x9;apply r0)
      refine join_c (by omega) (by omega) ?_
      repeat apply w4
      refine e_two rfl rfl ?_ ?_
      · repeat (apply x9;apply r0)
        refine resolve_c hg hc (by with_reducible repeat first|assumption|apply q4) ?_
        repeat first|apply w4|(apply y1;apply r0;apply r0)|(apply y4;apply r0)
        skip
        refine s_alloc tk rfl rfl rfl (fun b16 hb16 => ?_); have hb := hb16; (try simp only [put_none_iff, prot_none_iff] at hb); (repeat obtain ⟨_, _, hb⟩ := hb)
        repeat first|(apply xst;apply r0;(apply ps);apply r0)|apply w4|(apply y1;apply r0;apply r0)|apply y0|(apply y4;apply r0)
        skip
        simp only [put_put]
        refine prot_done_put (by simp only [List.mem_cons,List.not_mem_nil,or_false,not_or]; first|exact (by first|assumption|exact n1 ‹_› ‹_›|exact n2 ‹_› ‹_›|exact n3 ‹_› ‹_›|exact n4 ‹_› ‹_›)|exact ⟨(by first|assumption|exact n1 ‹_› ‹_›|exact n2 ‹_› ‹_›|exact n3 ‹_› ‹_›|exact n4 ‹_› ‹_›),(by first|assumption|exact n1 ‹_› ‹_›|exact n2 ‹_› ‹_›|exact n3 ‹_› ‹_›|exact n4 ‹_› ‹_›)⟩|exact ⟨(by first|assumption|exact n1 ‹_› ‹_›|exact n2 ‹_› ‹_›|exact n3 ‹_› ‹_›|exact n4 ‹_› ‹_›),(by first|assumption|exact n1 ‹_› ‹_›|exact n2 ‹_› ‹_›|exact n3 ‹_› ‹_›|exact n4 ‹_› ‹_›),(by first|assumption|exact n1 ‹_› ‹_›|exact n2 ‹_› ‹_›|exact n3 ‹_› ‹_›|exact n4 ‹_› ‹_›)⟩) ?_
        repeat apply w5
        exact ⟨b16, hb, (by repeat (first | exact Fr.sub_nil _ | refine Fr.sub_cons rfl ?_)), s0⟩
      · skip
        refine s_alloc tk rfl rfl rfl (fun b16 hb16 => ?_); have hb := hb16; (try simp only [put_none_iff, prot_none_iff] at hb); (repeat obtain ⟨_, _, hb⟩ := hb)
        repeat first|(apply x9;apply r0)|apply w4|(apply y4;apply r0)
        skip
        refine resolve_c hg hc (by with_reducible repeat first|assumption|apply q4|apply q3|exact n1 ‹_› ‹_›) ?_
        repeat first|(apply xst;apply r0;(apply ps);apply r0)|apply w4|(apply y1;apply r0;apply r0)|apply y0|(apply y4;apply r0)
        skip
        simp only [put_put]
        refine prot_done_put (by simp only [List.mem_cons,List.not_mem_nil,or_false,not_or]; first|exact (by first|assumption|exact n1 ‹_› ‹_›|exact n2 ‹_› ‹_›|exact n3 ‹_› ‹_›|exact n4 ‹_› ‹_›)|exact ⟨(by first|assumption|exact n1 ‹_› ‹_›|exact n2 ‹_› ‹_›|exact n3 ‹_› ‹_›|exact n4 ‹_› ‹_›),(by first|assumption|exact n1 ‹_› ‹_›|exact n2 ‹_› ‹_›|exact n3 ‹_› ‹_›|exact n4 ‹_› ‹_›)⟩|exact ⟨(by first|assumption|exact n1 ‹_› ‹_›|exact n2 ‹_› ‹_›|exact n3 ‹_› ‹_›|exact n4 ‹_› ‹_›),(by first|assumption|exact n1 ‹_› ‹_›|exact n2 ‹_› ‹_›|exact n3 ‹_› ‹_›|exact n4 ‹_› ‹_›),(by first|assumption|exact n1 ‹_› ‹_›|exact n2 ‹_› ‹_›|exact n3 ‹_› ‹_›|exact n4 ‹_› ‹_›)⟩) ?_
        repeat apply w5
        exact ⟨b16, hb, (by repeat (first | exact Fr.sub_nil _ | refine Fr.sub_cons rfl ?_)), s0⟩
    · skip
      refine s_alloc tk rfl rfl rfl (fun b16 hb16 => ?_); have hb := hb16; (try simp only [put_none_iff, prot_none_iff] at hb); (repeat obtain ⟨_, _, hb⟩ := hb)
      repeat first|(apply x9;apply r0)|apply w4|(apply y4;apply r0)
      skip
      refine join_c (by omega) (by omega) ?_
      repeat first|(apply x9;apply r0)|apply w4|(apply y4;apply r0)
      skip
      refine resolve_c hg hc (by with_reducible repeat first|assumption|apply q4|apply q3|exact n1 ‹_› ‹_›) ?_
      repeat first|(apply xst;apply r0;(apply ps);apply r0)|apply w4|(apply y1;apply r0;apply r0)|apply y0|(apply y4;apply r0)
      skip
      simp only [put_put]
      refine prot_done_put (by simp only [List.mem_cons,List.not_mem_nil,or_false,not_or]; first|exact (by first|assumption|exact n1 ‹_› ‹_›|exact n2 ‹_› ‹_›|exact n3 ‹_› ‹_›|exact n4 ‹_› ‹_›)|exact ⟨(by first|assumption|exact n1 ‹_› ‹_›|exact n2 ‹_› ‹_›|exact n3 ‹_› ‹_›|exact n4 ‹_› ‹_›),(by first|assumption|exact n1 ‹_› ‹_›|exact n2 ‹_› ‹_›|exact n3 ‹_› ‹_›|exact n4 ‹_› ‹_›)⟩|exact ⟨(by first|assumption|exact n1 ‹_› ‹_›|exact n2 ‹_› ‹_›|exact n3 ‹_› ‹_›|exact n4 ‹_› ‹_›),(by first|assumption|exact n1 ‹_› ‹_›|exact n2 ‹_› ‹_›|exact n3 ‹_› ‹_›|exact n4 ‹_› ‹_›),(by first|assumption|exact n1 ‹_› ‹_›|exact n2 ‹_› ‹_›|exact n3 ‹_› ‹_›|exact n4 ‹_› ‹_›)⟩) ?_
      repeat apply w5
      exact ⟨b16, hb, (by repeat (first | exact Fr.sub_nil _ | refine Fr.sub_cons rfl ?_)), s0⟩
  rintro F' H' ⟨b16, h16, hF, hH⟩
  refine AW_sub ?_ hF hH
  clear hF hH
  generalize T.resolve c path true = r at hP y14 ⊢
  generalize T.resolve c (joinOf path name) false = r' at hP ⊢
  have n1416 : b14 ≠ b16 := get_ne y14 h16
  have f16 : H b16 = none := sub_none ys h16
  obtain ⟨hp1, hp2, hp3⟩ := hP
  repeat first|(apply x1;apply r0;apply r0)|apply w4|apply w6|apply w7|apply w5
  refine aw_cond rfl (fun k1 => ?_) (fun k1 => ?_)<;>first|replace k1:=not_t k1|replace k1:=not_f k1
  · rw [hp1 k1]
    repeat first|(apply x1;apply r0;apply r0)|apply w6|apply w7
    refine s_gsplit rfl rfl (fun e1 => ?_) (fun e1 => ?_)<;>first|replace e1:=of_decide_eq_true e1|replace e1:=of_decide_eq_false e1
    case refine_2 => exact (e1 rfl).elim
    repeat first|(apply x2;apply r0;(apply q0);apply r0)|(apply x5;apply r0)|(apply xbd;apply r0)
    refine s_eqagg (r := true) tk rfl (.inl rfl) rfl rfl rfl (by kernel_rfl) rfl ?_
    repeat first|(apply x1;apply r0;apply r0)|apply w4|apply wd|apply w5|apply we
    exact rt1 (H' := H) rfl rfl (.refl _) (by repeat first|assumption|(apply su1;assumption)) hK
  have k1' : r.2 = 0 := k1
  repeat first|(apply x1;apply r0;apply r0)|(apply x2;apply r0;(with_reducible repeat first|assumption|exact q1 ‹_›|apply q3);apply r0)|apply w4|apply w6|apply w7|apply wa|apply w5
  refine aw_cond rfl (fun k2 => ?_) (fun k2 => ?_)<;>first|replace k2:=of_decide_eq_true k2|replace k2:=of_decide_eq_false k2
  · rw [hp2 k1' k2]
    repeat first|(apply x1;apply r0;apply r0)|apply w4|apply w6|apply w7|apply wd|apply w5|apply we
    exact rt1 (H' := H) rfl rfl (.refl _) (by repeat first|assumption|(apply su1;assumption)) hK
  have hp := hp3 k1' k2
  repeat first|(apply x1;apply r0;apply r0)|(apply x2;apply r0;(with_reducible repeat first|assumption|exact q1 ‹_›|apply q3);apply r0)|(apply x9;apply r0)|apply w6|apply w7|apply wa|apply w5
  refine tget_c hg.wf (by with_reducible repeat first|assumption|apply q3|exact n1 ‹_› ‹_›) ?_
  repeat (apply x1;apply r0;apply r0)
  refine s_alloc tk rfl rfl rfl (fun b18 hb18 => ?_); have hb := hb18; (try simp only [put_none_iff, prot_none_iff] at hb); (repeat obtain ⟨_, _, hb⟩ := hb)
  repeat first|(apply x1;apply r0;apply r0)|(apply x2;apply r0;(with_reducible repeat first|apply q0|apply ps);apply r0)|(apply xst;apply r0;(with_reducible repeat first|apply q0|apply ps);apply r0)|apply w4|apply w6|apply w7|apply w5
  unfold Tab.lastOf at hp
  refine aw_cond rfl (fun k3 => ?_) (fun k3 => ?_)<;>first|replace k3:=not_t k3|replace k3:=not_f k3
  · rw [if_pos k3] at hp
    rw [hp]
    repeat first|(apply x1;apply r0;apply r0)|apply w4|apply w6|apply w7|apply wd|apply w5|apply we
    exact rt1 (H' := H) rfl rfl (.refl _) (by repeat first|assumption|(apply su1;assumption)|(apply su3;assumption;assumption)) hK
  rw [if_neg (fun q => q k3)] at hp
  repeat first|(apply x1;apply r0;apply r0)|(apply x2;apply r0;(with_reducible repeat first|assumption|exact q1 ‹_›|apply q3|exact n1 ‹_› ‹_›|exact n2 ‹_› ‹_›);apply r0)|(apply x9;apply r0)|apply w6|apply w7|apply wa|apply w5
  refine can1_c hg.wf hc (by with_reducible repeat first|assumption|apply q3|exact n1 ‹_› ‹_›) ?_
  rcases hcn : T.can c r.1.node 1
  · rw [if_pos hcn] at hp
    rw [hp]
    repeat first|(apply gO;first|(apply x1;apply r0;apply r0)|apply w4)|(apply gW;first|apply w6|apply w7|(apply w8;apply r0)|apply wd)|apply w5|apply we
    exact rt1 (H' := H) rfl rfl (.refl _) (by repeat first|assumption|(apply su1;assumption)|(apply su3;assumption;assumption)) hK
  rw [if_neg (by rw [hcn]; decide)] at hp
  rw [hp]
  repeat first|(apply x1;apply r0;apply r0)|apply w4|apply w6|(apply w9;apply r0)|apply wa|apply w5
  refine aw_prot [b14, b16, b18] (allc (by with_reducible repeat first|assumption|exact q1 ‹_›|apply q3|exact n2 ‹_› ‹_›) (allc (by with_reducible repeat first|assumption|apply q0|apply q3) (allc (by apply q0) (allc0 _)))) ?_
  refine aw_plan mixed (.take 0 (.take 1 (.take 2 (.take 3 (.take 4 (.take 5 (.take 6 (.take 7 (.take 8 (.one 9 (.one 10 (.take 11 (.take 12 (.take 13 .done)))))))))))))) (by kernel_rfl) ?_
  repeat first|(apply x5;apply r0)|(apply x9;apply r0)|(apply y1;apply r0;apply r0)|(apply take1_ok;apply r0)|(apply y4;apply r0)|(apply y2;apply r0;apply r0;(with_reducible repeat first|assumption|apply q0|exact q1 ‹_›|apply pg|apply q3|exact n2 ‹_› ‹_›|exact mm0|apply mm1);apply r0)
  refine find_c (at_few hg _).small ?_
  repeat first|(apply x5;apply r0)|(apply xbd;apply r0)|apply w4|(apply y4;apply r0)
  refine d_stab rfl rfl rfl (pures_eqagg (r := true) tk (.inl rfl) rfl rfl rfl (by kernel_rfl) (by exact congrArg some (foundEq ⟨r.1.node, name, (T.at r.1.node).find name⟩))).stab ?_
  repeat first|(apply y1;apply r0;apply r0)|apply y0
  refine prot_done ?_
  repeat first|apply wd|apply w5
  exact rt1 (H' := H) rfl rfl (.refl _) (by repeat first|assumption|(apply su1;assumption)|(apply su3;assumption;assumption)) hK
end Abs
end Go.Proofs.Ytmokoofibnoojaa
