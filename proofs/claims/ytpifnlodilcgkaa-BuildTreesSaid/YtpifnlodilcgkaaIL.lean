import Derived.Test.YtpifnlodilcgkaaIK
import Derived.Test.YtpifnlodilcgkaaIF
set_option linter.unusedVariables false
namespace Go.Proofs.Ytpifnlodilcgkaa
namespace Abs
set_option linter.unusedSimpArgs false
set_option maxRecDepth 10000
set_option maxHeartbeats 2000000
attribute [local irreducible] AOps AW AP ACalls thenQ inBlk noGoto

/-! ### BuildTrees -/
theorem sameTo_self10 (T : Tab) : ∀ k : Nat, T.sameTo T k = true
  | 0 => rfl
  | k + 1 => by simp only [Tab.sameTo, sameTo_self10 T k, same_refl, Bool.and_self]
theorem same_tells10 {T : Tab} {L M : List Node} (h : Tells T L) (k : Tells T M) : rsameTo L M 24 = true := by
  rw [l_sameTo h.good.wf h.rel k.good.wf k.rel]; exact sameTo_self10 T 24
theorem buildTrees_c {room : Int} {l : List Raw} (hl : l.length ≤ 9223372036854775807) {H : AHeap} {K : AVal → AHeap → Prop} (hK : K (.b true) H) :
    ACalls Try.prog 6 [.i room, .sl (encRaws l) .no] H K := by
  refine acalls_body Try.func6 rfl rfl rfl ?_
  have ll := raws_len l
  repeat first|(apply x1;apply r0;apply r0)|(apply x9;apply r0)|apply w4|apply w6|apply w7|apply w5
  refine awake10_c ?_
  repeat first|(apply gO;first|(apply x1;apply r0;apply r0)|(apply x9;apply r0)|apply w4)|(apply gW;first|apply w6|apply w7|(apply w9;apply r0)|apply wa)|apply w5
  refine few10_c hl (fun q hq => ?_)
  repeat first|(apply x1;apply r0;apply r0)|apply w4|apply w6|apply w7|apply w5
  refine aw_cond rfl (fun c1 => ?_) (fun c1 => ?_)
  · repeat first|(apply x1;apply r0;apply r0)|apply w4|apply w6|apply w7|apply wd|apply w5|apply we
    exact rt1 (H' := H) rfl rfl (.refl _) s0 hK
  obtain ⟨hl50, hf⟩ := hq (by simpa using c1)
  have hbs := build_some (room := room) (l := l)
  repeat first|(apply x1;apply r0;apply r0)|(apply x9;apply r0)|apply w6|apply w7|apply wa|apply w5
  refine build_c (by omega) hf (fun h0 => ?_) (fun T t hT ht => ?_)
  · have he := hbs.2 h0
    repeat first|(apply x1;apply r0;apply r0)|(apply x9;apply r0)|apply w4|apply w6|apply w7|apply w5
    refine told10_c (by omega) ?_
    repeat (apply x9;apply r0)
    refine rbuild_c (by omega) hf (fun _ => ?_) (fun T M hT _ _ => by rw [h0] at hT; cases hT)
    generalize (build room l).2 = q at he ⊢
    obtain ⟨kk, e⟩ := q
    dsimp only at he ⊢
    repeat (apply x1;apply r0;apply r0)
    refine s_alloc tk rfl rfl rfl (fun b10 hb10 => ?_); have hb := hb10; (try simp only [put_none_iff, prot_none_iff] at hb); (repeat obtain ⟨_, _, hb⟩ := hb)
    repeat first|(apply x1;apply r0;apply r0)|(apply xst;apply r0;(apply ps);apply r0)|apply w4|apply w6|apply w7|apply w5
    refine s_gsplit rfl rfl (fun v1 => ?_) (fun v1 => ?_)<;>first|replace v1:=not_t v1|replace v1:=not_f v1
    · exact absurd rfl v1
    repeat first|(apply x1;apply r0;apply r0)|(apply x5;apply r0)
    refine s_gsplit rfl rfl (fun v2 => ?_) (fun v2 => ?_)<;>first|replace v2:=not_t v2|replace v2:=not_f v2
    · exact absurd rfl v2
    repeat first|(apply x1;apply r0;apply r0)|(apply x5;apply r0)|apply w4|apply w5
    refine aw_cond rfl (fun v3 => ?_) (fun v3 => ?_)<;>first|replace v3:=not_t v3|replace v3:=not_f v3
    · exact absurd (by rw [decide_eq_false he]; rfl) v3
    repeat first|apply w6|apply wa|apply w5
    refine aw_plan mixed (.take 0 (.take 1 (.take 2 (.take 3 (.take 5 (.one 4 (.one 6 (.take 7 (.take 8 (.take 10 (.take 11 (.take 12 (.one 9 (.take 13 (.take 14 (.take 15 (.take 16 .done))))))))))))))))) (by kernel_rfl) ?_
    repeat (apply y1;apply r0;apply r0)
    refine d_split rfl rfl rfl (fun v4 => ?_) (fun v4 => ?_)<;>first|replace v4:=not_t v4|replace v4:=not_f v4
    case refine_2 => exact absurd v4 he
    repeat first|(apply y1;apply r0;apply r0)|apply y0|(apply take1_ok;apply r0)|(apply skip1_ok;apply r0)|apply wd|apply w5
    skip
    exact rt1 (H' := H) rfl rfl (.refl _) (by repeat first|exact s0|(apply su1;assumption)) hK
  have he := hbs.1 (by rw [hT]; simp)
  have hg := good_build hT
  generalize hX : AHeap.put H t _ = X
  have xT : X t = some (.cells (encTab T)) := by rw [← hX]; exact (by apply get_eq;(focus apply ps);rfl)
  have xs' : H.sub X := by rw [← hX]; exact (by repeat first|exact s0|(apply su1;assumption))
  clear hX
  rw [he]
  repeat first|(apply x1;apply r0;apply r0)|(apply x9;apply r0)|apply w4|apply w6|apply w7|apply w5
  refine told10_c (by omega) ?_
  repeat (apply x9;apply r0)
  refine rbuild_c (by omega) hf (fun h0 => by rw [h0] at hT; cases hT) (fun T2 M hT2 hM hMl => ?_)
  rw [hT] at hT2
  cases hT2
  rw [he]
  repeat (apply x1;apply r0;apply r0)
  refine s_alloc tk rfl rfl rfl (fun b10 hb10 => ?_); have hb := hb10; (try simp only [put_none_iff, prot_none_iff] at hb); (repeat obtain ⟨_, _, hb⟩ := hb)
  (apply xst;apply r0;(apply ps);apply r0)
  rw [put_put]
  repeat first|(apply gO;first|(apply x1;apply r0;apply r0)|(apply x5;apply r0)|apply w4)|(apply gW;first|apply w6|apply w7|(apply w9;apply r0)|apply wa)|apply w5
  refine aw_prot [t, b10] (allc (by with_reducible repeat first|exact q1 ‹_›|apply q3|exact n2 ‹_› ‹_›) (allc (by apply q0) (allc0 _))) ?_
  refine aw_plan mixed (.take 0 (.take 1 (.take 2 (.take 3 (.take 5 (.one 4 (.one 6 (.take 7 (.take 8 (.take 10 (.take 11 (.take 12 (.one 9 (.take 13 (.take 14 (.take 15 (.take 16 .done))))))))))))))))) (by kernel_rfl) ?_
  repeat first|(apply x5;apply r0)|(apply x9;apply r0)|(apply y1;apply r0;apply r0)|(apply take1_ok;apply r0)|(apply y4;apply r0)|(apply y2;apply r0;apply r0;(with_reducible repeat first|apply q0|apply pg|exact mm0|apply mm1);apply r0)
  refine tree10_c hg (by with_reducible repeat first|exact q1 ‹_›|apply q4|apply q3|exact n2 ‹_› ‹_›) (fun L hL hLl => ?_)
  repeat first|(apply x5;apply r0)|(apply x9;apply r0)|apply w4|(apply y4;apply r0)
  refine rtsame_c (Nat.le_trans hL.rel.most (by decide)) (Nat.le_trans hM.rel.most (by decide)) (fun i => by rw [hL.get i]; exact few_nlen (at_few hg i)) ?_
  rw [same_tells10 hL hM]
  repeat first|(apply x5;apply r0)|(apply x9;apply r0)|apply w4|(apply take1_ok;apply r0)|(apply y4;apply r0)|(apply y2;apply r0;apply r0;(with_reducible repeat first|apply q0|apply pg|exact mm0|apply mm1);apply r0)
  refine room_c (T := T) (by with_reducible repeat first|exact q1 ‹_›|apply q4|apply q3|exact n2 ‹_› ‹_›) ?_
  repeat first|apply w4|(apply y1;apply r0;apply r0)|apply y0|(apply take1_ok;apply r0)
  refine prot_done ?_
  repeat first|apply wd|apply w5
  refine rt1 (v' := .b true) (H' := H) rfl rfl ?_ (by repeat first|assumption|(apply su3;assumption;assumption)) hK
  rw [decide_eq_true (show T.room = (((M.map encM).length : Nat) : Int) by rw [List.length_map, hMl]; have := hg.wf.2.1; omega)]
  exact .refl _
end Abs
end Go.Proofs.Ytpifnlodilcgkaa
