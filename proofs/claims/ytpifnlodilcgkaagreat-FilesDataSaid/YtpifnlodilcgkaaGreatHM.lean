import Derived.Test.YtpifnlodilcgkaaGreatHK
import Derived.Test.YtpifnlodilcgkaaGreatHL
import Derived.Test.YtpifnlodilcgkaaGreatY1
import Derived.Test.YtpifnlodilcgkaaGreatZ1
set_option linter.unusedVariables false
namespace Go.Proofs.YtpifnlodilcgkaaGreat
namespace Abs
set_option linter.unusedSimpArgs false
set_option maxRecDepth 10000
set_option maxHeartbeats 2000000
attribute [local irreducible] AOps AW AP ACalls thenQ inBlk noGoto

/-! ### FilesData -/
theorem sameTo_selfM (T : Tab) : ∀ k : Nat, T.sameTo T k = true
  | 0 => rfl
  | k + 1 => by simp only [Tab.sameTo, sameTo_selfM T k, same_refl, Bool.and_self]
theorem same_tellsM {T : Tab} {L M : List Node} (h : Tells T L) (k : Tells T M) : rsameTo L M 24 = true := by
  rw [l_sameTo h.good.wf h.rel k.good.wf k.rel]; exact sameTo_selfM T 24
theorem file_nil {i : Int} {H : AHeap} {K : AVal → AHeap → Prop} (hK : K (.tup [.agg (encNode Node.zero), .b false]) H) : ACalls Tryz.prog 36 [.nilp, .i i] H K := by
  refine acalls_body Tryz.func36 rfl rfl rfl ?_
  repeat first|apply w6|apply w7
  refine s_alloc tk rfl rfl rfl (fun b4 hb4 => ?_); have hb := hb4; (try simp only [put_none_iff, prot_none_iff] at hb); (repeat obtain ⟨_, _, hb⟩ := hb)
  repeat first|(apply x1;apply r0;apply r0)|(apply x9;apply r0)|apply w4|apply w6|apply w7|apply w5
  refine get_nil ?_
  repeat (apply x1;apply r0;apply r0)
  refine s_alloc tk rfl rfl rfl (fun b6 hb6 => ?_); have hb := hb6; (try simp only [put_none_iff, prot_none_iff] at hb); (repeat obtain ⟨_, _, hb⟩ := hb)
  repeat first|(apply x1;apply r0;apply r0)|(apply xst;apply r0;(apply ps);apply r0)|apply w4|apply w6|apply w5
  refine aw_prot [b6] (allc (by apply q0) (allc0 _)) ?_
  refine aw_plan mixed (.take 0 (.take 1 (.take 2 (.take 3 (.one 4 (.take 5 .done)))))) (by kernel_rfl) ?_
  repeat first|(apply xst;apply r0;(with_reducible repeat first|assumption|apply q0|apply ps|apply pg|apply gp|apply gq|apply nm1|exact nm0|exact mm0);apply r0)|apply w4|(apply y1;apply r0;apply r0)|apply y0|(apply y4;apply r0)|(apply y2;apply r0;apply r0;(with_reducible repeat first|assumption|apply q0|apply ps|apply pg|apply gp|apply gq|apply nm1|exact nm0|exact mm0);apply r0)
  simp only [put_put]
  refine prot_done_put (by simp only [List.mem_cons,List.not_mem_nil,or_false,not_or]; first|exact (by first|assumption|exact n1 ‹_› ‹_›|exact n2 ‹_› ‹_›|exact n3 ‹_› ‹_›|exact n4 ‹_› ‹_›)|exact ⟨(by first|assumption|exact n1 ‹_› ‹_›|exact n2 ‹_› ‹_›|exact n3 ‹_› ‹_›|exact n4 ‹_› ‹_›),(by first|assumption|exact n1 ‹_› ‹_›|exact n2 ‹_› ‹_›|exact n3 ‹_› ‹_›|exact n4 ‹_› ‹_›)⟩|exact ⟨(by first|assumption|exact n1 ‹_› ‹_›|exact n2 ‹_› ‹_›|exact n3 ‹_› ‹_›|exact n4 ‹_› ‹_›),(by first|assumption|exact n1 ‹_› ‹_›|exact n2 ‹_› ‹_›|exact n3 ‹_› ‹_›|exact n4 ‹_› ‹_›),(by first|assumption|exact n1 ‹_› ‹_›|exact n2 ‹_› ‹_›|exact n3 ‹_› ‹_›|exact n4 ‹_› ‹_›)⟩) ?_
  repeat first|apply wd|apply w5
  exact rt2c (H' := H) rfl rfl (by apply q0) rfl (by rfl) rfl (by exact .pair (wk_agg rfl) (.refl _)) (by repeat first|exact s0|(apply su1;assumption)) hK
theorem readAt_nil {i off n : Int} {H : AHeap} {K : AVal → AHeap → Prop} (hK : K (.tup [.sl [] .full, .i 9]) H) : ACalls Tryz.prog 12 [.nilp, .i i, .i off, .i n] H K := by
  refine acalls_body Tryz.func12 rfl rfl rfl ?_
  repeat first|(apply x1;apply r0;apply r0)|(apply x9;apply r0)|apply w4|apply w6|apply w7|apply w5
  refine file_nil ?_
  repeat (apply x1;apply r0;apply r0)
  refine s_alloc tk rfl rfl rfl (fun b10 hb10 => ?_); have hb := hb10; (try simp only [put_none_iff, prot_none_iff] at hb); (repeat obtain ⟨_, _, hb⟩ := hb)
  repeat first|(apply gO;first|(apply x1;apply r0;apply r0)|(apply xst;apply r0;(apply ps);apply r0)|apply w4)|(apply gW;first|apply w6|apply w7|(apply w8;apply r0)|apply wd|apply wb)|apply w5|apply we|apply wj
  exact rt2 (H' := H) rfl rfl rfl (.refl _) (by repeat first|exact s0|(apply su1;assumption)) hK
theorem writeAt_nil {c : Cred} {i off : Int} {v : AVal} {H : AHeap} {K : AVal → AHeap → Prop} (hK : K (.i 9) H) : ACalls Tryz.prog 15 [.nilp, .agg (encCred c), .i i, .i off, v] H K := by
  refine acalls_body Tryz.func15 rfl rfl rfl ?_
  repeat first|apply w6|apply w7
  refine s_box rfl rfl rfl (fun b6 hb6 => ?_); have hb := hb6; (try simp only [put_none_iff, prot_none_iff] at hb); (repeat obtain ⟨_, _, hb⟩ := hb)
  repeat first|(apply x1;apply r0;apply r0)|(apply x9;apply r0)|apply w4|apply w6|apply w7|apply w5
  refine file_nil ?_
  repeat (apply x1;apply r0;apply r0)
  refine s_alloc tk rfl rfl rfl (fun b11 hb11 => ?_); have hb := hb11; (try simp only [put_none_iff, prot_none_iff] at hb); (repeat obtain ⟨_, _, hb⟩ := hb)
  repeat first|(apply gO;first|(apply x1;apply r0;apply r0)|(apply xst;apply r0;(apply ps);apply r0)|apply w4)|(apply gW;first|apply w6|apply w7|(apply w8;apply r0)|apply wd|apply wb)|apply w5|apply we|apply wj
  exact rt1 (H' := H) rfl rfl (.refl _) (by repeat first|exact s0|(apply su1;assumption)) hK
theorem filesData_c {room : Int} {l : List Raw} (hl : l.length ≤ 9223372036854775807) {c : Cred} {i off n : Int} (ho : in64 off) (hn : in64 n) {b : ByteArray} (hb0 : b.size ≤ 9223372036854775807) {H : AHeap} {K : AVal → AHeap → Prop} (hK : K (.b true) H) :
    ACalls Tryz.prog 4 [.i room, .sl (encRaws l) .no, .agg (encCred c), .i i, .i off, .i n, .sl (encBytes b) .no] H K := by
  refine acalls_body Tryz.func4 rfl rfl rfl ?_
  have hlb := encBytes_len b
  repeat first|apply w6|apply w7
  refine s_box rfl rfl rfl (fun b9 hb9 => ?_); have hb := hb9; (try simp only [put_none_iff, prot_none_iff] at hb); (repeat obtain ⟨_, _, hb⟩ := hb)
  repeat first|(apply x1;apply r0;apply r0)|(apply x9;apply r0)|apply w4|apply w6|apply w7|apply w5
  refine awake16_c ?_
  repeat first|(apply gO;first|(apply x1;apply r0;apply r0)|(apply x2;apply r0;(apply q0);apply r0)|(apply x9;apply r0)|apply w4)|(apply gW;first|apply w6|apply w7|(apply w9;apply r0)|apply wa)|apply w5
  refine built16_c hl ?_ (fun T t hB ht => ?_)
  · repeat first|(apply gO;first|(apply x1;apply r0;apply r0)|apply w4|(apply w3;apply r0;apply r0))|(apply gW;first|apply w6|apply w7|(apply w8;apply r0)|apply wd)|apply w5|apply we
    exact rt1 (H' := H) rfl rfl (.refl _) (by repeat first|exact s0|(apply su1;assumption)) hK
  have hg := hB.good
  have hc := hB.small
  have nb7 : b9 ≠ t := by
    have := (put_none_iff.1 ht)
    exact this.2.1
  have ht' : H t = none := (put_none_iff.1 ht).2.2
  repeat first|(apply x1;apply r0;apply r0)|(apply x5;apply r0)|apply w4|apply w6|apply w7|apply w5
  refine aw_cond rfl (fun g1 => ?_) (fun g1 => ?_)<;>first|replace g1:=of_decide_eq_true g1|replace g1:=of_decide_eq_false g1
  · repeat first|(apply x1;apply r0;apply r0)|apply w4|apply w6|apply w7|apply wd|apply w5|apply we
    exact rt1 (H' := H) rfl rfl (.refl _) (by repeat first|exact s0|(apply su1;assumption)) hK
  have hbs : b.size ≤ 100 := by rw [hlb] at g1; omega
  have hg2 := good_writeF hg c i off b
  repeat first|(apply x1;apply r0;apply r0)|(apply x9;apply r0)|apply w6|apply w7|apply wa|apply w5
  refine readAt_c hg (by apply q0) ?_
  repeat first|(apply x1;apply r0;apply r0)|(apply x9;apply r0)|apply w4|apply w6|apply w7|apply w5
  refine tree16_c hg (by apply q0) (fun L0 hL0 hLl0 => ?_)
  repeat first|(apply x1;apply r0;apply r0)|(apply x9;apply r0)
  refine rreadAt_c hL0 ho hn ?_
  generalize T.readF i off n = P
  repeat first|(apply x1;apply r0;apply r0)|apply w4|apply w6|apply w5
  repeat apply w6
  generalize hY : AHeap.put _ t _ = Y
  have yT : Y t = some (.cells (encTab T)) := by rw [← hY]; exact (by apply get_eq;(focus apply ps);rfl)
  have y7' : Rd Y b9 (encCred c) := by rw [← hY]; exact (by apply rd_eq;(focus with_reducible repeat first|assumption|apply q0|apply q3);rfl)
  have ys : H.sub Y := by rw [← hY]; exact (by repeat first|exact s0|(apply su1;assumption))
  clear hY
  refine aw_cutS (fun F' H' => ∃ b22 M, Y b22 = none ∧ Tells (T.writeF c i off b).1 M ∧ Fr.sub [(3, .i i), (4, .i off), (5, .i n), (6, .sl (encBytes b) .no), (9, .ptr b9 0), (16, .ptr t 0), (18, .sl (encBytes P.1) .no), (19, .i P.2), (20, .s P.1), (21, .i P.2), (22, .ptr b22 0), (23, .i (T.writeF c i off b).2)] F' ∧ (Y.put b22 (.cells (encT M))).sub H') ?_ ?_
  · refine aw_prot [b9, t] (allc (by with_reducible assumption) (allc (by with_reducible repeat exact q1 ‹_›) (allc0 _))) ?_
    refine aw_plan mixed (.take 0 (.take 2 (.take 4 (.take 5 (.take 6 (.take 7 (.two 1 12 (.two 3 12 (.two 8 12 (.take 9 (.take 10 (.take 11 (.one 12 (.one 13 (.take 14 .done)))))) (.one 8 (.take 9 (.take 10 (.take 11 (.one 13 (.take 14 .done))))))) (.one 3 (.one 8 (.take 9 (.take 10 (.take 11 (.one 13 (.take 14 .done)))))))) (.one 1 (.one 3 (.one 8 (.take 9 (.take 10 (.take 11 (.one 13 (.take 14 .done))))))))))))))) (by kernel_rfl) ?_
    repeat first|(apply y1;apply r0;apply r0)|(apply y2;apply r0;apply r0;(with_reducible repeat first|assumption|apply pg|exact mm0);apply r0)
    refine d_str (s := b) rfl rfl rfl rfl rfl rfl rfl ?_
    skip
    refine e_two rfl rfl ?_ ?_
    · repeat (apply x9;apply r0)
      refine tree16_c hg (by with_reducible repeat first|exact q1 ‹_›|apply q4) (fun L hL hLl => ?_)
      repeat apply w4
      refine e_two rfl rfl ?_ ?_
      · repeat (apply x9;apply r0)
        refine who16_c ?_
        repeat apply w4
        refine e_two rfl rfl ?_ ?_
        · repeat (apply x9;apply r0)
          refine rwriteAt_c hL hc ho hbs (fun M hM => ?_)
          repeat first|apply w4|(apply y1;apply r0;apply r0)|(apply y4;apply r0)
          skip
          refine s_alloc tk rfl rfl rfl (fun b22 hb22 => ?_); have hb := hb22; (try simp only [put_none_iff, prot_none_iff] at hb); (repeat obtain ⟨_, _, hb⟩ := hb)
          repeat first|(apply xst;apply r0;(apply ps);apply r0)|apply w4|(apply y1;apply r0;apply r0)|apply y0|(apply y4;apply r0)
          skip
          simp only [put_put]
          refine prot_done_put (by simp only [List.mem_cons,List.not_mem_nil,or_false,not_or]; first|exact (by first|assumption|exact n1 ‹_› ‹_›|exact n2 ‹_› ‹_›|exact n3 ‹_› ‹_›|exact n4 ‹_› ‹_›)|exact ⟨(by first|assumption|exact n1 ‹_› ‹_›|exact n2 ‹_› ‹_›|exact n3 ‹_› ‹_›|exact n4 ‹_› ‹_›),(by first|assumption|exact n1 ‹_› ‹_›|exact n2 ‹_› ‹_›|exact n3 ‹_› ‹_›|exact n4 ‹_› ‹_›)⟩|exact ⟨(by first|assumption|exact n1 ‹_› ‹_›|exact n2 ‹_› ‹_›|exact n3 ‹_› ‹_›|exact n4 ‹_› ‹_›),(by first|assumption|exact n1 ‹_› ‹_›|exact n2 ‹_› ‹_›|exact n3 ‹_› ‹_›|exact n4 ‹_› ‹_›),(by first|assumption|exact n1 ‹_› ‹_›|exact n2 ‹_› ‹_›|exact n3 ‹_› ‹_›|exact n4 ‹_› ‹_›)⟩) ?_
          repeat apply w5
          exact ⟨b22, M, hb, hM, (by repeat (first | exact Fr.sub_nil _ | refine Fr.sub_cons rfl ?_)), s0⟩
        · skip
          refine s_alloc tk rfl rfl rfl (fun b22 hb22 => ?_); have hb := hb22; (try simp only [put_none_iff, prot_none_iff] at hb); (repeat obtain ⟨_, _, hb⟩ := hb)
          repeat first|(apply x9;apply r0)|apply w4|(apply y4;apply r0)
          skip
          refine rwriteAt_c hL hc ho hbs (fun M hM => ?_)
          repeat first|(apply xst;apply r0;(apply ps);apply r0)|apply w4|(apply y1;apply r0;apply r0)|apply y0|(apply y4;apply r0)
          simp only [put_put]
          refine prot_done_put (by simp only [List.mem_cons,List.not_mem_nil,or_false,not_or]; first|exact (by first|assumption|exact n1 ‹_› ‹_›|exact n2 ‹_› ‹_›|exact n3 ‹_› ‹_›|exact n4 ‹_› ‹_›)|exact ⟨(by first|assumption|exact n1 ‹_› ‹_›|exact n2 ‹_› ‹_›|exact n3 ‹_› ‹_›|exact n4 ‹_› ‹_›),(by first|assumption|exact n1 ‹_› ‹_›|exact n2 ‹_› ‹_›|exact n3 ‹_› ‹_›|exact n4 ‹_› ‹_›)⟩|exact ⟨(by first|assumption|exact n1 ‹_› ‹_›|exact n2 ‹_› ‹_›|exact n3 ‹_› ‹_›|exact n4 ‹_› ‹_›),(by first|assumption|exact n1 ‹_› ‹_›|exact n2 ‹_› ‹_›|exact n3 ‹_› ‹_›|exact n4 ‹_› ‹_›),(by first|assumption|exact n1 ‹_› ‹_›|exact n2 ‹_› ‹_›|exact n3 ‹_› ‹_›|exact n4 ‹_› ‹_›)⟩) ?_
          repeat apply w5
          exact ⟨b22, M, hb, hM, (by repeat (first | exact Fr.sub_nil _ | refine Fr.sub_cons rfl ?_)), s0⟩
      · skip
        refine s_alloc tk rfl rfl rfl (fun b22 hb22 => ?_); have hb := hb22; (try simp only [put_none_iff, prot_none_iff] at hb); (repeat obtain ⟨_, _, hb⟩ := hb)
        repeat first|(apply x9;apply r0)|apply w4|(apply y4;apply r0)
        skip
        refine who16_c ?_
        repeat first|(apply x9;apply r0)|apply w4|(apply y4;apply r0)
        skip
        refine rwriteAt_c hL hc ho hbs (fun M hM => ?_)
        repeat first|(apply xst;apply r0;(apply ps);apply r0)|apply w4|(apply y1;apply r0;apply r0)|apply y0|(apply y4;apply r0)
        simp only [put_put]
        refine prot_done_put (by simp only [List.mem_cons,List.not_mem_nil,or_false,not_or]; first|exact (by first|assumption|exact n1 ‹_› ‹_›|exact n2 ‹_› ‹_›|exact n3 ‹_› ‹_›|exact n4 ‹_› ‹_›)|exact ⟨(by first|assumption|exact n1 ‹_› ‹_›|exact n2 ‹_› ‹_›|exact n3 ‹_› ‹_›|exact n4 ‹_› ‹_›),(by first|assumption|exact n1 ‹_› ‹_›|exact n2 ‹_› ‹_›|exact n3 ‹_› ‹_›|exact n4 ‹_› ‹_›)⟩|exact ⟨(by first|assumption|exact n1 ‹_› ‹_›|exact n2 ‹_› ‹_›|exact n3 ‹_› ‹_›|exact n4 ‹_› ‹_›),(by first|assumption|exact n1 ‹_› ‹_›|exact n2 ‹_› ‹_›|exact n3 ‹_› ‹_›|exact n4 ‹_› ‹_›),(by first|assumption|exact n1 ‹_› ‹_›|exact n2 ‹_› ‹_›|exact n3 ‹_› ‹_›|exact n4 ‹_› ‹_›)⟩) ?_
        repeat apply w5
        exact ⟨b22, M, hb, hM, (by repeat (first | exact Fr.sub_nil _ | refine Fr.sub_cons rfl ?_)), s0⟩
    · skip
      refine s_alloc tk rfl rfl rfl (fun b22 hb22 => ?_); have hb := hb22; (try simp only [put_none_iff, prot_none_iff] at hb); (repeat obtain ⟨_, _, hb⟩ := hb)
      repeat first|(apply x9;apply r0)|apply w4|(apply y4;apply r0)
      skip
      refine tree16_c hg (by with_reducible repeat first|exact q1 ‹_›|apply q4|apply q3|exact n2 ‹_› ‹_›) (fun L hL hLl => ?_)
      repeat first|(apply x9;apply r0)|apply w4|(apply y4;apply r0)
      skip
      refine who16_c ?_
      repeat first|(apply x9;apply r0)|apply w4|(apply y4;apply r0)
      skip
      refine rwriteAt_c hL hc ho hbs (fun M hM => ?_)
      repeat first|(apply xst;apply r0;(apply ps);apply r0)|apply w4|(apply y1;apply r0;apply r0)|apply y0|(apply y4;apply r0)
      simp only [put_put]
      refine prot_done_put (by simp only [List.mem_cons,List.not_mem_nil,or_false,not_or]; first|exact (by first|assumption|exact n1 ‹_› ‹_›|exact n2 ‹_› ‹_›|exact n3 ‹_› ‹_›|exact n4 ‹_› ‹_›)|exact ⟨(by first|assumption|exact n1 ‹_› ‹_›|exact n2 ‹_› ‹_›|exact n3 ‹_› ‹_›|exact n4 ‹_› ‹_›),(by first|assumption|exact n1 ‹_› ‹_›|exact n2 ‹_› ‹_›|exact n3 ‹_› ‹_›|exact n4 ‹_› ‹_›)⟩|exact ⟨(by first|assumption|exact n1 ‹_› ‹_›|exact n2 ‹_› ‹_›|exact n3 ‹_› ‹_›|exact n4 ‹_› ‹_›),(by first|assumption|exact n1 ‹_› ‹_›|exact n2 ‹_› ‹_›|exact n3 ‹_› ‹_›|exact n4 ‹_› ‹_›),(by first|assumption|exact n1 ‹_› ‹_›|exact n2 ‹_› ‹_›|exact n3 ‹_› ‹_›|exact n4 ‹_› ‹_›)⟩) ?_
      repeat apply w5
      exact ⟨b22, M, hb, hM, (by repeat (first | exact Fr.sub_nil _ | refine Fr.sub_cons rfl ?_)), s0⟩
  rintro F' H' ⟨b22, M, h22, hM, hF, hH⟩
  refine AW_sub ?_ hF hH
  clear hF hH
  have f22 : H b22 = none := sub_none ys h22
  have n722 : b9 ≠ b22 := rd_ne y7' h22
  have nt22 : t ≠ b22 := get_ne yT h22
  repeat first|(apply x1;apply r0;apply r0)|(apply x2;apply r0;(with_reducible repeat first|assumption|apply q3);apply r0)|(apply x9;apply r0)|apply w6|apply w7
  refine writeAt_c hg hc (by omega) (by with_reducible repeat first|assumption|apply gp) ?_
  generalize T.writeF c i off b = A at hM hg2 ⊢
  repeat first|(apply x1;apply r0;apply r0)|(apply x9;apply r0)|apply w4|apply w6|apply w7|apply w5
  refine readAt_nil ?_
  repeat first|(apply x1;apply r0;apply r0)|apply w4|apply w6|apply w5
  refine aw_prot [b9, t, b22] (allc (by with_reducible repeat first|assumption|apply q3) (allc (by apply q0) (allc (by with_reducible repeat first|apply q0|apply q3|exact n4 ‹_› ‹_›) (allc0 _)))) ?_
  refine aw_plan mixed (.take 0 (.take 1 (.take 2 (.take 3 (.take 4 (.take 5 (.take 6 (.take 7 (.take 8 (.take 9 (.take 10 (.take 11 (.take 12 (.take 13 (.take 14 (.take 15 (.take 17 (.one 16 (.one 18 (.take 19 (.take 20 (.take 21 (.take 22 (.take 23 (.take 24 (.take 25 (.take 26 (.take 27 (.take 28 (.take 29 (.take 30 (.take 31 (.take 32 (.take 33 (.one 34 (.take 35 (.take 36 (.take 37 .done)))))))))))))))))))))))))))))))))))))) (by kernel_rfl) ?_
  repeat (apply y1;apply r0;apply r0)
  refine d_str (s := P.1) rfl rfl rfl rfl rfl rfl rfl ?_
  repeat (apply y1;apply r0;apply r0)
  refine d_split rfl rfl rfl (fun e1 => ?_) (fun e1 => ?_)<;>first|replace e1:=of_decide_eq_true e1|replace e1:=of_decide_eq_false e1
  case refine_2 => exact (e1 rfl).elim
  repeat first|(apply y1;apply r0;apply r0)|(apply take1_ok;apply r0)
  refine d_split rfl rfl rfl (fun e2 => ?_) (fun e2 => ?_)<;>first|replace e2:=of_decide_eq_true e2|replace e2:=of_decide_eq_false e2
  case refine_2 => exact (e2 rfl).elim
  repeat first|(apply y1;apply r0;apply r0)|(apply take1_ok;apply r0)
  refine d_split rfl rfl rfl (fun e3 => ?_) (fun e3 => ?_)<;>first|replace e3:=of_decide_eq_true e3|replace e3:=of_decide_eq_false e3
  case refine_2 => exact (e3 rfl).elim
  repeat first|(apply x5;apply r0)|(apply x9;apply r0)|(apply take1_ok;apply r0)|(apply y4;apply r0)|(apply y2;apply r0;apply r0;(with_reducible repeat first|apply q0|apply pg|apply q3|exact n4 ‹_› ‹_›|exact mm0|apply mm1);apply r0)
  refine tree16_c hg2 (by with_reducible repeat first|apply q0|apply q4) (fun L hL hLl => ?_)
  repeat first|(apply x5;apply r0)|(apply x9;apply r0)|apply w4|(apply y4;apply r0)
  refine rtsame_c (Nat.le_trans hL.rel.most (by decide)) (Nat.le_trans hM.rel.most (by decide)) (fun i => by rw [hL.get i]; exact few_nlen (at_few hg2 i)) ?_
  rw [same_tellsM hL hM]
  repeat first|(apply x5;apply r0)|(apply x9;apply r0)|apply w4|(apply y1;apply r0;apply r0)|(apply take1_ok;apply r0)|(apply y4;apply r0)|(apply y2;apply r0;apply r0;(with_reducible repeat first|assumption|apply pg|apply q3|exact mm0);apply r0)
  refine writeAt_nil ?_
  repeat first|apply w4|(apply y1;apply r0;apply r0)|apply y0|(apply take1_ok;apply r0)
  refine prot_done ?_
  repeat first|apply wd|apply w5
  exact rt1 (H' := H) rfl rfl (.refl _) (by repeat first|assumption|(apply su1;assumption)) hK
end Abs
end Go.Proofs.YtpifnlodilcgkaaGreat
