import Derived.Test.YtpifnlodilcgkaaIO
import Derived.Test.YtpifnlodilcgkaaIF
set_option linter.unusedVariables false
namespace Go.Proofs.Ytpifnlodilcgkaa
namespace Abs
set_option linter.unusedSimpArgs false
set_option maxRecDepth 10000
set_option maxHeartbeats 2000000
attribute [local irreducible] AOps AW AP ACalls thenQ inBlk noGoto

/-! ### BuildAgain -/
theorem buildAgain_c {room : Int} (hr : 0 ≤ room ∧ room ≤ 255) {l : List Raw} (hl : l.length ≤ 9223372036854775807) {H : AHeap} {K : AVal → AHeap → Prop} (hK : K (.b true) H) :
    ACalls Try.prog 9 [.sc (.int .u8 room), .sl (encRaws l) .no] H K := by
  refine acalls_body Try.func9 rfl rfl rfl ?_
  have ll := raws_len l
  repeat first|(apply x1;apply r0;apply r0)|(apply x9;apply r0)|apply w4|apply w6|apply w7|apply w5
  refine awake10_c ?_
  repeat first|(apply gO;first|(apply x1;apply r0;apply r0)|(apply x9;apply r0)|apply w4)|(apply gW;first|apply w6|apply w7|(apply w9;apply r0)|apply wa)|apply w5
  refine few10_c hl (fun q hq => ?_)
  repeat first|(apply x1;apply r0;apply r0)|apply w4|apply w6|apply w7|apply w5
  refine aw_cond rfl (fun c1 => ?_) (fun c1 => ?_)
  · repeat first|(apply x1;apply r0;apply r0)|apply w4|apply w6|apply w7|apply wd|apply w5|apply we
    exact rt1 (H' := H) rfl rfl (.refl _) s0 hK
  obtain ⟨hl50, hf⟩ := hq (by simpa using c1)
  have hbs := build_some (room := room) (l := l)
  repeat first|(apply x1;apply r0;apply r0)|apply w6|apply w7|apply wa|apply w5
  refine s_conv (r := room) tk rfl rfl rfl rfl (wrap_id ⟨by omega, by omega⟩) ?_
  repeat first|(apply x1;apply r0;apply r0)|(apply x9;apply r0)
  refine build_c (by omega) hf (fun h0 => ?_) (fun T t hT ht => ?_)
  · have he := hbs.2 h0
    repeat first|(apply x1;apply r0;apply r0)|apply w4|apply w6|apply w7|apply w5
    refine aw_cond rfl (fun c2 => ?_) (fun c2 => ?_)<;>first|replace c2:=not_t c2|replace c2:=not_f c2
    · repeat first|(apply x1;apply r0;apply r0)|apply w4|apply w6|apply w7|apply wd|apply w5|apply we
      exact rt1 (H' := H) rfl rfl (.refl _) s0 hK
    · exact absurd c2 he
  have hg := good_build hT
  rw [hbs.1 (by rw [hT]; simp)]
  obtain ⟨U, hU, hus, htl, hxl⟩ := again_law hT
  have hgU := good_build hU
  have hxf := tell_few hg
  have hbs2 := (build_some (room := room) (l := T.tell)).1 (by rw [hU]; simp)
  have hsame := same_at (T := U) (U := U) (fun _ => rfl)
  generalize hX : AHeap.put H t _ = X
  have xT : X t = some (.cells (encTab T)) := by rw [← hX]; exact (by apply get_eq;(focus apply ps);rfl)
  have xs' : H.sub X := by rw [← hX]; exact (by repeat first|exact s0|(apply su1;assumption))
  clear hX
  repeat first|(apply gO;first|(apply x1;apply r0;apply r0)|(apply x9;apply r0)|apply w4)|(apply gW;first|apply w6|apply w7|(apply w9;apply r0)|apply wa)|apply w5
  refine tell_c hg (by with_reducible repeat exact q1 ‹_›) ?_
  generalize T.tell = x at hU htl hxl hxf hbs2 ⊢
  have lx := raws_len x
  repeat first|(apply x1;apply r0;apply r0)|apply w4|apply w6|apply w7|apply w5
  refine s_conv (r := room) tk rfl rfl rfl rfl (wrap_id ⟨by omega, by omega⟩) ?_
  repeat first|(apply x1;apply r0;apply r0)|(apply x9;apply r0)
  refine build_c (room := room) (l := x) (by omega) hxf (fun h0 => by rw [hU] at h0; cases h0) (fun U2 u hU2 hu => ?_)
  rw [hU] at hU2
  cases hU2
  rw [hbs2]
  generalize hX : AHeap.put X u _ = X2
  have xT2 : X2 t = some (.cells (encTab T)) := by rw [← hX]; exact (by apply get_eq;(focus with_reducible repeat first|assumption|apply gp|exact n2 ‹_› ‹_›);rfl)
  have xU2 : X2 u = some (.cells (encTab U)) := by rw [← hX]; exact (by apply get_eq;(focus apply ps);rfl)
  have xs2 : H.sub X2 := by rw [← hX]; exact (by repeat first|assumption|(apply su3;assumption;assumption))
  clear hX
  repeat first|(apply x1;apply r0;apply r0)|(apply x5;apply r0)|(apply x9;apply r0)|apply w4|apply w6|apply w7|apply w5
  refine used_c hgU.wf (by with_reducible repeat exact q1 ‹_›) ?_
  repeat first|(apply x1;apply r0;apply r0)|(apply x5;apply r0)|(apply x9;apply r0)
  refine used_c hg.wf (by with_reducible repeat exact q1 ‹_›) ?_
  rw [hus]
  repeat first|(apply x1;apply r0;apply r0)|(apply x5;apply r0)|apply w4|apply w5
  refine aw_cond rfl (fun v1 => ?_) (fun v1 => ?_)<;>first|replace v1:=not_t v1|replace v1:=not_f v1
  · exact absurd rfl v1
  repeat first|(apply x1;apply r0;apply r0)|(apply x9;apply r0)|apply w6|apply w7|apply wa|apply w5
  refine tell_c hgU (by with_reducible repeat exact q1 ‹_›) ?_
  rw [htl]
  repeat first|(apply x1;apply r0;apply r0)|apply w4|apply w6|apply w7|apply w5
  refine s_conv (r := room) tk rfl rfl rfl rfl (wrap_id ⟨by omega, by omega⟩) ?_
  repeat first|(apply x1;apply r0;apply r0)|(apply x9;apply r0)
  refine build_c (room := room) (l := x) (by omega) hxf (fun h0 => by rw [hU] at h0; cases h0) (fun U2 v hU2 hv => ?_)
  rw [hU] at hU2
  cases hU2
  rw [hbs2]
  generalize hX : AHeap.put X2 v _ = X3
  have xU3 : X3 u = some (.cells (encTab U)) := by rw [← hX]; exact (by apply get_eq;(focus with_reducible repeat first|assumption|apply gp|exact n2 ‹_› ‹_›);rfl)
  have xV3 : X3 v = some (.cells (encTab U)) := by rw [← hX]; exact (by apply get_eq;(focus apply ps);rfl)
  have xs3 : H.sub X3 := by rw [← hX]; exact (by repeat first|assumption|(apply su3;assumption;assumption))
  clear hX
  repeat first|(apply x1;apply r0;apply r0)|(apply x5;apply r0)|apply w4|apply w6|apply w7|apply w5
  refine s_gsplit rfl rfl (fun v2 => ?_) (fun v2 => ?_)<;>first|replace v2:=not_t v2|replace v2:=not_f v2
  · exact absurd rfl v2
  repeat first|(apply x1;apply r0;apply r0)|(apply x5;apply r0)|(apply x9;apply r0)
  refine tsame_c hgU.wf hgU.wf (by with_reducible repeat exact q1 ‹_›) (by with_reducible repeat exact q1 ‹_›) ?_
  rw [hsame]
  repeat first|(apply gO;first|(apply x1;apply r0;apply r0)|(apply x5;apply r0)|apply w4)|(apply gW;first|apply w6|apply w7|(apply w9;apply r0)|apply wa|apply wb)|apply w5
  refine aw_loop (fun k : Nat => k ≤ x.length) (fun k => [(1, .sl (encRaws l) .no), (10, .sl (encRaws x) .no), (14, .sl (encRaws x) .no), (18, .i k)]) (fun _ => X3) (fun k => x.length - k) 0 (Nat.zero_le _) (by repeat (first | exact Fr.sub_nil _ | refine Fr.sub_cons rfl ?_)) (AHeap.sub_refl _) ?_
  intro k hk
  repeat first|(apply x1;apply r0;apply r0)|apply w4|apply w6|apply w7|apply w5
  refine aw_cond rfl (fun c3 => ?_) (fun c3 => ?_)<;>first|replace c3:=of_decide_eq_true c3|replace c3:=of_decide_eq_false c3
  case refine_2 =>
    repeat first|(apply gO;first|(apply x1;apply r0;apply r0)|apply w4)|(apply gW;first|apply w6|apply w7|apply wd|apply wc)|apply w5|apply wf|apply wh
    refine rt1 (v' := .b true) (H' := H) rfl rfl ?_ (by repeat assumption) hK
    rw [decide_eq_true (show (((encRaws x).length : Nat) : Int) = (((encRaws l).length : Nat) : Int) by rw [lx, ll, hxl])]
    exact .refl _
  have c3' : k < x.length := by omega
  have hget : (encRaws x)[(k : Int).toNat]? = some (encRaw x[k]) := by simp [encRaws, c3']
  generalize x[k] = r at hget
  repeat first|apply w6|apply wa|apply wb|apply w5
  refine aw_plan mixed (.take 0 (.take 1 (.take 2 (.take 3 (.take 4 (.take 5 (.take 6 (.take 7 (.take 8 (.take 9 (.take 10 (.take 11 (.take 12 (.take 13 (.take 14 (.take 15 (.take 16 (.take 17 (.take 18 (.take 19 (.take 20 (.take 21 (.take 22 (.take 23 (.take 24 (.take 25 (.take 26 (.take 27 (.take 28 (.take 29 (.take 30 (.take 31 (.take 32 (.take 33 (.take 34 (.take 35 (.take 36 (.take 37 (.take 38 (.take 39 (.take 40 (.take 41 (.take 42 (.take 43 (.take 44 (.take 45 (.take 46 (.take 47 (.take 48 (.take 49 (.take 50 (.take 51 (.take 52 (.take 53 (.take 54 (.take 55 (.take 56 (.take 57 (.take 58 (.take 59 (.take 60 (.take 61 (.take 62 .done))))))))))))))))))))))))))))))))))))))))))))))))))))))))))))))) (by kernel_rfl) ?_
  repeat (apply y1;apply r0;apply r0)
  refine d_index rfl rfl rfl rfl rfl rfl (by omega) hget rfl ?_
  repeat first|(apply y1;apply r0;apply r0)|(apply y3;apply r0;apply r0)
  refine d_index rfl rfl rfl rfl rfl rfl (by omega) hget rfl ?_
  repeat first|(apply y1;apply r0;apply r0)|(apply y3;apply r0;apply r0)
  refine d_split rfl rfl rfl (fun e1 => ?_) (fun e1 => ?_)<;>first|replace e1:=not_t e1|replace e1:=not_f e1
  · exact absurd rfl e1
  repeat (apply take1_ok;apply r0)
  refine d_index rfl rfl rfl rfl rfl rfl (by omega) hget rfl ?_
  repeat first|(apply take1_ok;apply r0)|(apply y3;apply r0;apply r0)
  refine d_index rfl rfl rfl rfl rfl rfl (by omega) hget rfl ?_
  repeat first|(apply y1;apply r0;apply r0)|(apply take1_ok;apply r0)|(apply y3;apply r0;apply r0)
  refine d_split rfl rfl rfl (fun e2 => ?_) (fun e2 => ?_)<;>first|replace e2:=not_t e2|replace e2:=not_f e2
  · exact absurd rfl e2
  repeat (apply take1_ok;apply r0)
  refine d_index rfl rfl rfl rfl rfl rfl (by omega) hget rfl ?_
  repeat first|(apply take1_ok;apply r0)|(apply y3;apply r0;apply r0)
  refine d_index rfl rfl rfl rfl rfl rfl (by omega) hget rfl ?_
  repeat first|(apply y1;apply r0;apply r0)|(apply take1_ok;apply r0)|(apply y3;apply r0;apply r0)
  refine d_split rfl rfl rfl (fun e3 => ?_) (fun e3 => ?_)<;>first|replace e3:=not_t e3|replace e3:=not_f e3
  · exact absurd rfl e3
  repeat (apply take1_ok;apply r0)
  refine d_index rfl rfl rfl rfl rfl rfl (by omega) hget rfl ?_
  repeat first|(apply take1_ok;apply r0)|(apply y3;apply r0;apply r0)
  refine d_index rfl rfl rfl rfl rfl rfl (by omega) hget rfl ?_
  repeat first|(apply y1;apply r0;apply r0)|(apply take1_ok;apply r0)|(apply y3;apply r0;apply r0)
  refine d_split rfl rfl rfl (fun e4 => ?_) (fun e4 => ?_)<;>first|replace e4:=not_t e4|replace e4:=not_f e4
  · exact absurd rfl e4
  repeat (apply take1_ok;apply r0)
  refine d_index rfl rfl rfl rfl rfl rfl (by omega) hget rfl ?_
  repeat first|(apply take1_ok;apply r0)|(apply y3;apply r0;apply r0)
  refine d_index rfl rfl rfl rfl rfl rfl (by omega) hget rfl ?_
  repeat first|(apply y1;apply r0;apply r0)|apply y0|(apply take1_ok;apply r0)|(apply y3;apply r0;apply r0)|apply w5
  refine aw_cond rfl (fun e5 => ?_) (fun e5 => ?_)<;>first|replace e5:=not_t e5|replace e5:=not_f e5
  · exact absurd rfl e5
  repeat first|(apply x1;apply r0;apply r0)|apply w4|(apply x6;apply r0;omega)|apply w7|apply wa|apply w5|apply wg
  exact ⟨k + 1, c3', by omega, (by repeat (first | exact Fr.sub_nil _ | refine Fr.sub_cons rfl ?_)), AHeap.sub_refl _⟩
end Abs
end Go.Proofs.Ytpifnlodilcgkaa
