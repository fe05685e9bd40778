import Derived.Test.YtpifnlodilcgkaaGreatHH
import Derived.Test.YtpifnlodilcgkaaGreatY1
import Derived.Test.YtpifnlodilcgkaaGreatZ1
set_option linter.unusedVariables false
namespace Go.Proofs.YtpifnlodilcgkaaGreat
namespace Abs
set_option linter.unusedSimpArgs false
set_option maxRecDepth 10000
set_option maxHeartbeats 2000000
attribute [local irreducible] AOps AW AP ACalls thenQ inBlk noGoto

/-! ### FilesOpen -/
theorem sameTo_selfI (T : Tab) : ∀ k : Nat, T.sameTo T k = true
  | 0 => rfl
  | k + 1 => by simp only [Tab.sameTo, sameTo_selfI T k, same_refl, Bool.and_self]
theorem same_tellsI {T : Tab} {L M : List Node} (h : Tells T L) (k : Tells T M) : rsameTo L M 24 = true := by
  rw [l_sameTo h.good.wf h.rel k.good.wf k.rel]; exact sameTo_selfI T 24
theorem open_nil {c : Cred} {umask mode flags : Int} {path : ByteArray} {H : AHeap} {K : AVal → AHeap → Prop} (hK : ∀ e : Int, ¬ e = 0 → K (.tup [.i 0, .i e]) H) : ACalls Tryz.prog 10 [.nilp, .agg (encCred c), .i umask, .s path, .i flags, .i mode] H K := by
  refine acalls_body Tryz.func10 rfl rfl rfl ?_
  repeat first|apply w6|apply w7
  refine s_box rfl rfl rfl (fun b7 hb7 => ?_); have hb := hb7; (try simp only [put_none_iff, prot_none_iff] at hb); (repeat obtain ⟨_, _, hb⟩ := hb)
  skip
  refine s_box rfl rfl rfl (fun b10 hb10 => ?_); have hb := hb10; (try simp only [put_none_iff, prot_none_iff] at hb); (repeat obtain ⟨_, _, hb⟩ := hb)
  repeat first|(apply x1;apply r0;apply r0)|(apply x2;apply r0;(apply q0);apply r0)|(apply x9;apply r0)|apply w4|apply w6|apply w7|apply w5
  refine fright_c ?_
  cases z0 : flagsOk flags with
  | false =>
    repeat first|(apply gO;first|(apply x1;apply r0;apply r0)|apply w4)|(apply gW;first|apply w6|apply w7|(apply w8;apply r0)|apply wd)|apply w5|apply we
    exact rt2 (H' := H) rfl rfl rfl (.refl _) (by repeat first|exact s0|(apply su1;assumption)) (hK 22 (by decide))
  | true =>
    repeat first|(apply x1;apply r0;apply r0)|apply w4|apply w6|apply w7|(apply w9;apply r0)|apply wa|apply w5
    refine s_clo rfl rfl rfl (fkall rfl) ?_
    refine hasopen_c (by apply q0) ?_
    repeat first|(apply x1;apply r0;apply r0)|(apply x2;apply r0;(with_reducible repeat first|assumption|apply q0|apply q3);apply r0)|(apply x9;apply r0)|apply w4|apply w6|apply w7|apply w5
    refine resolve_nil (fun e he => ?_)
    repeat (apply x1;apply r0;apply r0)
    refine s_alloc tk rfl rfl rfl (fun b16 hb16 => ?_); have hb := hb16; (try simp only [put_none_iff, prot_none_iff] at hb); (repeat obtain ⟨_, _, hb⟩ := hb)
    repeat first|(apply x1;apply r0;apply r0)|(apply xst;apply r0;(apply ps);apply r0)|apply w4|apply w6|apply w7|apply w5
    refine aw_cond rfl (fun g1 => ?_) (fun g1 => ?_)<;>first|replace g1:=not_t g1|replace g1:=not_f g1
    · repeat first|(apply x1;apply r0;apply r0)|apply w4|apply w6|apply w7|apply wd|apply w5|apply we
      exact rt2 (H' := H) rfl rfl rfl (.refl _) (by repeat first|exact s0|(apply su1;assumption)) (hK e he)
    · exact absurd g1 he
theorem filesOpen_c {room : Int} {l : List Raw} (hl : l.length ≤ 9223372036854775807) {c : Cred} {umask : Int} (hum : in64 umask) {path : ByteArray} {flags mode : Int} (hmo : in64 mode) {H : AHeap} {K : AVal → AHeap → Prop} (hK : K (.b true) H) :
    ACalls Tryz.prog 3 [.i room, .sl (encRaws l) .no, .agg (encCred c), .i umask, .s path, .i flags, .i mode] H K := by
  refine acalls_body Tryz.func3 rfl rfl rfl ?_
  repeat first|apply w6|apply w7
  refine s_box rfl rfl rfl (fun b9 hb9 => ?_); have hb := hb9; (try simp only [put_none_iff, prot_none_iff] at hb); (repeat obtain ⟨_, _, hb⟩ := hb)
  repeat first|(apply x1;apply r0;apply r0)|(apply x9;apply r0)|apply w4|apply w6|apply w7|apply w5
  refine awake16_c ?_
  repeat first|(apply gO;first|(apply x1;apply r0;apply r0)|(apply x2;apply r0;(apply q0);apply r0)|(apply x9;apply r0)|apply w4)|(apply gW;first|apply w6|apply w7|(apply w9;apply r0)|apply wa)|apply w5
  refine built16_c hl ?_ (fun T t hB ht => ?_)
  · repeat first|(apply gO;first|(apply x1;apply r0;apply r0)|apply w4|(apply w3;apply r0;apply r0))|(apply gW;first|apply w6|apply w7|(apply w8;apply r0)|apply wd)|apply w5|apply we
    exact rt1 (H' := H) rfl rfl (.refl _) (by repeat first|exact s0|(apply su1;assumption)) hK
  have hg := hB.good
  have hc := hB.small
  have htr := build_tree hB.tree
  have nb7 : b9 ≠ t := by
    have := (put_none_iff.1 ht)
    exact this.2.1
  have ht' : H t = none := (put_none_iff.1 ht).2.2
  repeat first|(apply x1;apply r0;apply r0)|(apply x5;apply r0)|apply w4|apply w6|apply w7|apply w5
  refine aw_cond rfl (fun g1 => ?_) (fun g1 => ?_)<;>first|replace g1:=of_decide_eq_true g1|replace g1:=of_decide_eq_false g1
  · repeat first|(apply x1;apply r0;apply r0)|apply w4|apply w6|apply w7|apply wd|apply w5|apply we
    exact rt1 (H' := H) rfl rfl (.refl _) (by repeat first|exact s0|(apply su1;assumption)) hK
  have hg2 := good_openF hg c umask (T.resolve c path (!hasF flags 40)) flags mode
  repeat first|apply w6|apply wa|apply w5
  repeat apply w6
  generalize hY : AHeap.put _ t _ = Y
  have yT : Y t = some (.cells (encTab T)) := by rw [← hY]; exact (by apply get_eq;(focus apply ps);rfl)
  have y7' : Rd Y b9 (encCred c) := by rw [← hY]; exact (by apply rd_eq;(focus with_reducible repeat first|assumption|apply q0|apply q3);rfl)
  have ys : H.sub Y := by rw [← hY]; exact (by repeat first|exact s0|(apply su1;assumption))
  clear hY
  refine aw_cutS (fun F' H' => ∃ b18 M, Y b18 = none ∧ Tells (T.openF c umask (T.resolve c path (!hasF flags 40)) flags mode).1 M ∧ Fr.sub [(3, .i umask), (4, .s path), (5, .i flags), (6, .i mode), (9, .ptr b9 0), (16, .ptr t 0), (18, .ptr b18 0), (19, .i (T.openF c umask (T.resolve c path (!hasF flags 40)) flags mode).2.1), (20, .i (T.openF c umask (T.resolve c path (!hasF flags 40)) flags mode).2.2)] F' ∧ (Y.put b18 (.cells (encT M))).sub H') ?_ ?_
  · refine aw_prot [b9, t] (allc (by with_reducible assumption) (allc (by with_reducible repeat exact q1 ‹_›) (allc0 _))) ?_
    refine aw_plan mixed (.take 0 (.take 2 (.take 4 (.take 5 (.take 6 (.take 7 (.two 1 13 (.two 3 13 (.two 8 13 (.take 9 (.take 10 (.take 11 (.take 12 (.one 13 (.one 14 (.take 15 (.take 16 .done)))))))) (.one 8 (.take 9 (.take 10 (.take 11 (.take 12 (.one 14 (.take 15 (.take 16 .done))))))))) (.one 3 (.one 8 (.take 9 (.take 10 (.take 11 (.take 12 (.one 14 (.take 15 (.take 16 .done)))))))))) (.one 1 (.one 3 (.one 8 (.take 9 (.take 10 (.take 11 (.take 12 (.one 14 (.take 15 (.take 16 .done))))))))))))))))) (by kernel_rfl) ?_
    repeat first|(apply y1;apply r0;apply r0)|(apply y2;apply r0;apply r0;(with_reducible repeat first|assumption|apply pg|exact mm0);apply r0)
    refine e_two rfl rfl ?_ ?_
    · repeat (apply x9;apply r0)
      refine tree16_c hg (by with_reducible repeat first|exact q1 ‹_›|apply q4) (fun L hL hLl => ?_)
      repeat apply w4
      refine e_two rfl rfl ?_ ?_
      · repeat (apply x9;apply r0)
        refine who16_c ?_
        repeat apply w4
        refine e_two rfl rfl ?_ ?_
        · repeat (apply x9;apply r0)
          refine ropen_c htr hL hLl hc hum hmo (by omega) (fun M hM => ?_)
          repeat first|apply w4|(apply y1;apply r0;apply r0)|(apply y4;apply r0)
          skip
          refine s_alloc tk rfl rfl rfl (fun b18 hb18 => ?_); have hb := hb18; (try simp only [put_none_iff, prot_none_iff] at hb); (repeat obtain ⟨_, _, hb⟩ := hb)
          repeat first|(apply xst;apply r0;(apply ps);apply r0)|apply w4|(apply y1;apply r0;apply r0)|apply y0|(apply y4;apply r0)
          skip
          simp only [put_put]
          refine prot_done_put (by simp only [List.mem_cons,List.not_mem_nil,or_false,not_or]; first|exact (by first|assumption|exact n1 ‹_› ‹_›|exact n2 ‹_› ‹_›|exact n3 ‹_› ‹_›|exact n4 ‹_› ‹_›)|exact ⟨(by first|assumption|exact n1 ‹_› ‹_›|exact n2 ‹_› ‹_›|exact n3 ‹_› ‹_›|exact n4 ‹_› ‹_›),(by first|assumption|exact n1 ‹_› ‹_›|exact n2 ‹_› ‹_›|exact n3 ‹_› ‹_›|exact n4 ‹_› ‹_›)⟩|exact ⟨(by first|assumption|exact n1 ‹_› ‹_›|exact n2 ‹_› ‹_›|exact n3 ‹_› ‹_›|exact n4 ‹_› ‹_›),(by first|assumption|exact n1 ‹_› ‹_›|exact n2 ‹_› ‹_›|exact n3 ‹_› ‹_›|exact n4 ‹_› ‹_›),(by first|assumption|exact n1 ‹_› ‹_›|exact n2 ‹_› ‹_›|exact n3 ‹_› ‹_›|exact n4 ‹_› ‹_›)⟩) ?_
          repeat apply w5
          exact ⟨b18, M, hb, hM, (by repeat (first | exact Fr.sub_nil _ | refine Fr.sub_cons rfl ?_)), s0⟩
        · skip
          refine s_alloc tk rfl rfl rfl (fun b18 hb18 => ?_); have hb := hb18; (try simp only [put_none_iff, prot_none_iff] at hb); (repeat obtain ⟨_, _, hb⟩ := hb)
          repeat first|(apply x9;apply r0)|apply w4|(apply y4;apply r0)
          skip
          refine ropen_c htr hL hLl hc hum hmo (by omega) (fun M hM => ?_)
          repeat first|(apply xst;apply r0;(apply ps);apply r0)|apply w4|(apply y1;apply r0;apply r0)|apply y0|(apply y4;apply r0)
          simp only [put_put]
          refine prot_done_put (by simp only [List.mem_cons,List.not_mem_nil,or_false,not_or]; first|exact (by first|assumption|exact n1 ‹_› ‹_›|exact n2 ‹_› ‹_›|exact n3 ‹_› ‹_›|exact n4 ‹_› ‹_›)|exact ⟨(by first|assumption|exact n1 ‹_› ‹_›|exact n2 ‹_› ‹_›|exact n3 ‹_› ‹_›|exact n4 ‹_› ‹_›),(by first|assumption|exact n1 ‹_› ‹_›|exact n2 ‹_› ‹_›|exact n3 ‹_› ‹_›|exact n4 ‹_› ‹_›)⟩|exact ⟨(by first|assumption|exact n1 ‹_› ‹_›|exact n2 ‹_› ‹_›|exact n3 ‹_› ‹_›|exact n4 ‹_› ‹_›),(by first|assumption|exact n1 ‹_› ‹_›|exact n2 ‹_› ‹_›|exact n3 ‹_› ‹_›|exact n4 ‹_› ‹_›),(by first|assumption|exact n1 ‹_› ‹_›|exact n2 ‹_› ‹_›|exact n3 ‹_› ‹_›|exact n4 ‹_› ‹_›)⟩) ?_
          repeat apply w5
          exact ⟨b18, M, hb, hM, (by repeat (first | exact Fr.sub_nil _ | refine Fr.sub_cons rfl ?_)), s0⟩
      · skip
        refine s_alloc tk rfl rfl rfl (fun b18 hb18 => ?_); have hb := hb18; (try simp only [put_none_iff, prot_none_iff] at hb); (repeat obtain ⟨_, _, hb⟩ := hb)
        repeat first|(apply x9;apply r0)|apply w4|(apply y4;apply r0)
        skip
        refine who16_c ?_
        repeat first|(apply x9;apply r0)|apply w4|(apply y4;apply r0)
        skip
        refine ropen_c htr hL hLl hc hum hmo (by omega) (fun M hM => ?_)
        repeat first|(apply xst;apply r0;(apply ps);apply r0)|apply w4|(apply y1;apply r0;apply r0)|apply y0|(apply y4;apply r0)
        simp only [put_put]
        refine prot_done_put (by simp only [List.mem_cons,List.not_mem_nil,or_false,not_or]; first|exact (by first|assumption|exact n1 ‹_› ‹_›|exact n2 ‹_› ‹_›|exact n3 ‹_› ‹_›|exact n4 ‹_› ‹_›)|exact ⟨(by first|assumption|exact n1 ‹_› ‹_›|exact n2 ‹_› ‹_›|exact n3 ‹_› ‹_›|exact n4 ‹_› ‹_›),(by first|assumption|exact n1 ‹_› ‹_›|exact n2 ‹_› ‹_›|exact n3 ‹_› ‹_›|exact n4 ‹_› ‹_›)⟩|exact ⟨(by first|assumption|exact n1 ‹_› ‹_›|exact n2 ‹_› ‹_›|exact n3 ‹_› ‹_›|exact n4 ‹_› ‹_›),(by first|assumption|exact n1 ‹_› ‹_›|exact n2 ‹_› ‹_›|exact n3 ‹_› ‹_›|exact n4 ‹_› ‹_›),(by first|assumption|exact n1 ‹_› ‹_›|exact n2 ‹_› ‹_›|exact n3 ‹_› ‹_›|exact n4 ‹_› ‹_›)⟩) ?_
        repeat apply w5
        exact ⟨b18, M, hb, hM, (by repeat (first | exact Fr.sub_nil _ | refine Fr.sub_cons rfl ?_)), s0⟩
    · skip
      refine s_alloc tk rfl rfl rfl (fun b18 hb18 => ?_); have hb := hb18; (try simp only [put_none_iff, prot_none_iff] at hb); (repeat obtain ⟨_, _, hb⟩ := hb)
      repeat first|(apply x9;apply r0)|apply w4|(apply y4;apply r0)
      skip
      refine tree16_c hg (by with_reducible repeat first|exact q1 ‹_›|apply q4|apply q3|exact n2 ‹_› ‹_›) (fun L hL hLl => ?_)
      repeat first|(apply x9;apply r0)|apply w4|(apply y4;apply r0)
      skip
      refine who16_c ?_
      repeat first|(apply x9;apply r0)|apply w4|(apply y4;apply r0)
      skip
      refine ropen_c htr hL hLl hc hum hmo (by omega) (fun M hM => ?_)
      repeat first|(apply xst;apply r0;(apply ps);apply r0)|apply w4|(apply y1;apply r0;apply r0)|apply y0|(apply y4;apply r0)
      simp only [put_put]
      refine prot_done_put (by simp only [List.mem_cons,List.not_mem_nil,or_false,not_or]; first|exact (by first|assumption|exact n1 ‹_› ‹_›|exact n2 ‹_› ‹_›|exact n3 ‹_› ‹_›|exact n4 ‹_› ‹_›)|exact ⟨(by first|assumption|exact n1 ‹_› ‹_›|exact n2 ‹_› ‹_›|exact n3 ‹_› ‹_›|exact n4 ‹_› ‹_›),(by first|assumption|exact n1 ‹_› ‹_›|exact n2 ‹_› ‹_›|exact n3 ‹_› ‹_›|exact n4 ‹_› ‹_›)⟩|exact ⟨(by first|assumption|exact n1 ‹_› ‹_›|exact n2 ‹_› ‹_›|exact n3 ‹_› ‹_›|exact n4 ‹_› ‹_›),(by first|assumption|exact n1 ‹_› ‹_›|exact n2 ‹_› ‹_›|exact n3 ‹_› ‹_›|exact n4 ‹_› ‹_›),(by first|assumption|exact n1 ‹_› ‹_›|exact n2 ‹_› ‹_›|exact n3 ‹_› ‹_›|exact n4 ‹_› ‹_›)⟩) ?_
      repeat apply w5
      exact ⟨b18, M, hb, hM, (by repeat (first | exact Fr.sub_nil _ | refine Fr.sub_cons rfl ?_)), s0⟩
  rintro F' H' ⟨b18, M, h18, hM, hF, hH⟩
  refine AW_sub ?_ hF hH
  clear hF hH
  have f14 : H b18 = none := sub_none ys h18
  have n714 : b9 ≠ b18 := rd_ne y7' h18
  have nt14 : t ≠ b18 := get_ne yT h18
  repeat first|(apply x1;apply r0;apply r0)|(apply x2;apply r0;(with_reducible repeat first|assumption|apply q3);apply r0)|(apply x9;apply r0)|apply w6|apply w7
  refine open_c hg hc (by with_reducible repeat first|assumption|apply gp) ?_
  generalize T.openF c umask (T.resolve c path (!hasF flags 40)) flags mode = A at hM hg2 ⊢
  repeat first|(apply x1;apply r0;apply r0)|(apply x2;apply r0;(with_reducible repeat first|assumption|apply q3);apply r0)|(apply x9;apply r0)|apply w4|apply w6|apply w7|apply w5
  refine open_nil (fun e he => ?_)
  repeat first|(apply x1;apply r0;apply r0)|apply w4|apply w6|apply w5
  refine aw_prot [b9, t, b18] (allc (by with_reducible repeat first|assumption|apply q3) (allc (by apply q0) (allc (by with_reducible repeat first|apply q0|apply q3|exact n4 ‹_› ‹_›) (allc0 _)))) ?_
  refine aw_plan mixed (.take 0 (.take 1 (.take 2 (.take 3 (.take 4 (.take 5 (.take 6 (.take 7 (.take 8 (.take 9 (.take 11 (.one 10 (.one 12 (.take 13 (.take 14 (.take 15 (.take 16 (.take 17 (.take 18 .done))))))))))))))))))) (by kernel_rfl) ?_
  repeat (apply y1;apply r0;apply r0)
  refine d_split rfl rfl rfl (fun e1 => ?_) (fun e1 => ?_)<;>first|replace e1:=of_decide_eq_true e1|replace e1:=of_decide_eq_false e1
  case refine_2 => exact (e1 rfl).elim
  repeat first|(apply y1;apply r0;apply r0)|(apply take1_ok;apply r0)
  refine d_split rfl rfl rfl (fun e2 => ?_) (fun e2 => ?_)<;>first|replace e2:=of_decide_eq_true e2|replace e2:=of_decide_eq_false e2
  case refine_2 => exact (e2 rfl).elim
  repeat first|(apply x5;apply r0)|(apply x9;apply r0)|(apply take1_ok;apply r0)|(apply y4;apply r0)|(apply y2;apply r0;apply r0;(with_reducible repeat first|apply q0|apply pg|apply q3|exact n4 ‹_› ‹_›|exact mm0|apply mm1);apply r0)
  refine tree16_c hg2 (by with_reducible repeat first|apply q0|apply q4) (fun L hL hLl => ?_)
  repeat first|(apply x5;apply r0)|(apply x9;apply r0)|apply w4|(apply y4;apply r0)
  refine rtsame_c (Nat.le_trans hL.rel.most (by decide)) (Nat.le_trans hM.rel.most (by decide)) (fun i => by rw [hL.get i]; exact few_nlen (at_few hg2 i)) ?_
  rw [same_tellsI hL hM]
  repeat first|apply w4|(apply y1;apply r0;apply r0)|apply y0|(apply take1_ok;apply r0)
  refine prot_done ?_
  repeat first|apply wd|apply w5
  refine rt1 (H' := H) rfl rfl (.refl _) (by repeat first|assumption|(apply su1;assumption)) ?_
  rw [decide_eq_false he]
  exact hK
end Abs
end Go.Proofs.YtpifnlodilcgkaaGreat
