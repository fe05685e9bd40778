import Derived.Test.YtpifnlodilcgkaaIF
import Derived.Test.YtpifnlodilcgkaaIG
set_option linter.unusedVariables false
namespace Go.Proofs.Ytpifnlodilcgkaa
namespace Abs
set_option linter.unusedSimpArgs false
set_option maxRecDepth 10000
set_option maxHeartbeats 2000000
attribute [local irreducible] AOps AW AP ACalls thenQ inBlk noGoto

/-! ### BuildRoom -/
theorem buildRoom_c {l : List Raw} (hl : l.length ≤ 9223372036854775807) {room more : Int} (hr : 0 ≤ room ∧ room ≤ 255) (hm : 0 ≤ more ∧ more ≤ 255) {H : AHeap} {K : AVal → AHeap → Prop} (hK : K (.b true) H) :
    ACalls Try.prog 10 [.sl (encRaws l) .no, .sc (.int .u8 room), .sc (.int .u8 more)] H K := by
  refine acalls_body Try.func10 rfl rfl rfl ?_
  have ll := raws_len l
  repeat first|(apply x1;apply r0;apply r0)|(apply x9;apply r0)|apply w4|apply w6|apply w7|apply w5
  refine awake10_c ?_
  repeat first|(apply gO;first|(apply x1;apply r0;apply r0)|(apply x9;apply r0)|apply w4)|(apply gW;first|apply w6|apply w7|(apply w9;apply r0)|apply wa)|apply w5
  refine few10_c hl (fun q hq => ?_)
  repeat first|(apply x1;apply r0;apply r0)|apply w4|apply w6|apply w7|apply w5
  refine aw_cond rfl (fun c1 => ?_) (fun c1 => ?_)
  · repeat first|(apply x1;apply r0;apply r0)|apply w4|apply w6|apply w7|apply wd|apply w5|apply we
    exact rt1 (H' := H) rfl rfl (.refl _) s0 hK
  obtain ⟨hl50, hf⟩ := hq (by simpa using c1)
  have hbs := build_some (room := 24) (l := l)
  repeat first|(apply x1;apply r0;apply r0)|(apply x9;apply r0)|apply w6|apply w7|apply wa|apply w5
  refine build_c (by omega) hf (fun h0 => ?_) (fun T t hT ht => ?_)
  · have he := hbs.2 h0
    repeat first|(apply x1;apply r0;apply r0)|apply w4|apply w6|apply w7|apply w5
    refine aw_cond rfl (fun c2 => ?_) (fun c2 => ?_)<;>first|replace c2:=not_t c2|replace c2:=not_f c2
    · repeat first|(apply x1;apply r0;apply r0)|apply w4|apply w6|apply w7|apply wd|apply w5|apply we
      exact rt1 (H' := H) rfl rfl (.refl _) s0 hK
    · exact absurd c2 he
  have hg := good_build hT
  have he := hbs.1 (by rw [hT]; simp)
  have b1' := (bt_build2 hT).1
  rw [he]
  generalize hX : AHeap.put H t _ = X
  have xT : X t = some (.cells (encTab T)) := by rw [← hX]; exact (by apply get_eq;(focus apply ps);rfl)
  have xs' : H.sub X := by rw [← hX]; exact (by repeat first|exact s0|(apply su1;assumption))
  clear hX
  repeat first|(apply x1;apply r0;apply r0)|apply w4|apply w6|apply w7|(apply w9;apply r0)|apply wa|apply w5
  refine s_rem rfl rfl rfl (by decide) hr.1 ?_
  skip
  refine s_conv (r := room % 24) tk rfl rfl rfl rfl (wrap_id ⟨by omega, by omega⟩) ?_
  repeat first|(apply x1;apply r0;apply r0)|(apply x9;apply r0)|apply w4|(apply x6;apply r0;omega)|apply w6|apply w7|apply w5
  obtain ⟨R, hR⟩ : ∃ R : Int, R = room % 24 + 1 := ⟨_, rfl⟩
  have hR1 : 1 ≤ R ∧ R ≤ 24 := by omega
  rw [← hR]
  have sm := build_sim hT R hR1.1
  have sm2 := build_sim hT (R + more) (by omega)
  have hbR := build_some (room := R) (l := l)
  have hbM := build_some (room := R + more) (l := l)
  have hu24 := b1'.room
  have hw24 := hg.wf.2.1
  rw [← bt_used b1'] at hu24
  have hmin : min R 24 = R := by omega
  rw [hmin] at sm
  skip
  refine build_c (room := R) (by omega) hf (fun h0 => ?_) (fun U u hU hu => ?_)
  · have hbig : R < T.used := by
      rcases Int.lt_or_le R T.used with q | q
      · exact q
      · obtain ⟨U, hU, -⟩ := sm.1 q
        rw [hU] at h0; cases h0
    obtain ⟨s1', s2', s3'⟩ := sm.2 hbig
    rw [s3']
    generalize (build R l).2.1 = j at s2' ⊢
    repeat first|(apply x1;apply r0;apply r0)|apply w4|apply w6|apply w7|apply w5
    refine s_conv (r := more) tk rfl rfl rfl rfl (wrap_id ⟨by omega, by omega⟩) ?_
    repeat first|(apply x1;apply r0;apply r0)|(apply x9;apply r0)|(apply x6;apply r0;omega)
    refine build_c (room := R + more) (by omega) hf (fun h1 => ?_) (fun V v hV hv => ?_)
    · generalize (build (R + more) l).2 = z
      repeat first|(apply x1;apply r0;apply r0)|(apply x9;apply r0)|apply w4|apply w6|apply w7|apply w5
      refine used_c hg.wf (by with_reducible repeat exact q1 ‹_›) ?_
      repeat first|(apply x1;apply r0;apply r0)|apply w4|apply w5
      refine aw_cond rfl (fun d1 => ?_) (fun d1 => ?_)<;>first|replace d1:=of_decide_eq_true d1|replace d1:=of_decide_eq_false d1
      case refine_2 => exact absurd hbig d1
      repeat first|(apply gO;first|(apply x1;apply r0;apply r0)|(apply x5;apply r0)|apply w4)|(apply gW;first|apply w6|apply w7|apply wd)|apply w5|apply we
      refine rt1 (v' := .b true) (H' := H) rfl rfl ?_ (by repeat assumption) hK
      rw [decide_eq_true (show (0 : Int) < j by omega)]
      exact .refl _
    · generalize (build (R + more) l).2 = z
      repeat first|(apply x1;apply r0;apply r0)|(apply x9;apply r0)|apply w4|apply w6|apply w7|apply w5
      refine used_c hg.wf (by with_reducible repeat first|exact q1 ‹_›|apply q3|exact n2 ‹_› ‹_›) ?_
      repeat first|(apply x1;apply r0;apply r0)|apply w4|apply w5
      refine aw_cond rfl (fun d1 => ?_) (fun d1 => ?_)<;>first|replace d1:=of_decide_eq_true d1|replace d1:=of_decide_eq_false d1
      case refine_2 => exact absurd hbig d1
      repeat first|(apply gO;first|(apply x1;apply r0;apply r0)|(apply x5;apply r0)|apply w4)|(apply gW;first|apply w6|apply w7|apply wd)|apply w5|apply we
      refine rt1 (v' := .b true) (H' := H) rfl rfl ?_ (by repeat first|assumption|(apply su3;assumption;assumption)) hK
      rw [decide_eq_true (show (0 : Int) < j by omega)]
      exact .refl _
  have hsmall : T.used ≤ R := by
    rcases Int.lt_or_le R T.used with q | q
    · rw [(sm.2 q).1] at hU; cases hU
    · exact q
  obtain ⟨U', hU', hs1⟩ := sm.1 hsmall
  rw [hU] at hU'; cases hU'
  rw [hbR.1 (by rw [hU]; simp)]
  obtain ⟨V', hV', hs2⟩ := sm2.1 (by omega)
  have hgU := good_build hU
  generalize hX : AHeap.put X u _ = X2
  have xT2 : X2 t = some (.cells (encTab T)) := by rw [← hX]; exact (by apply get_eq;(focus with_reducible repeat first|assumption|apply gp|exact n2 ‹_› ‹_›);rfl)
  have xU2 : X2 u = some (.cells (encTab U)) := by rw [← hX]; exact (by apply get_eq;(focus apply ps);rfl)
  have xs2 : H.sub X2 := by rw [← hX]; exact (by repeat first|assumption|(apply su3;assumption;assumption))
  clear hX
  repeat first|(apply x1;apply r0;apply r0)|apply w4|apply w6|apply w7|apply w5
  refine s_conv (r := more) tk rfl rfl rfl rfl (wrap_id ⟨by omega, by omega⟩) ?_
  repeat first|(apply x1;apply r0;apply r0)|(apply x9;apply r0)|(apply x6;apply r0;omega)
  refine build_c (room := R + more) (by omega) hf (fun h1 => by rw [hV'] at h1; cases h1) (fun V v hV hv => ?_)
  rw [hV] at hV'; cases hV'
  have hgV := good_build hV
  rw [hbM.1 (by rw [hV]; simp)]
  repeat first|(apply x1;apply r0;apply r0)|(apply x9;apply r0)|apply w4|apply w6|apply w7|apply w5
  refine used_c hg.wf (by with_reducible repeat first|exact q1 ‹_›|apply q3|exact n2 ‹_› ‹_›) ?_
  repeat first|(apply x1;apply r0;apply r0)|apply w4|apply w5
  refine aw_cond rfl (fun d1 => ?_) (fun d1 => ?_)<;>first|replace d1:=of_decide_eq_true d1|replace d1:=of_decide_eq_false d1
  · exact absurd d1 (by omega)
  repeat first|(apply x1;apply r0;apply r0)|(apply x5;apply r0)|(apply x9;apply r0)|apply w6|apply w7|apply wa|apply w5
  refine tsame_c hgU.wf hg.wf (by with_reducible repeat first|exact q1 ‹_›|apply q3|exact n2 ‹_› ‹_›) (by with_reducible repeat first|exact q1 ‹_›|apply q3|exact n2 ‹_› ‹_›) ?_
  rw [hs1]
  repeat first|(apply x1;apply r0;apply r0)|(apply x5;apply r0)|(apply x9;apply r0)
  refine tsame_c hgV.wf hg.wf (by apply q0) (by with_reducible repeat first|exact q1 ‹_›|apply q3|exact n2 ‹_› ‹_›) ?_
  rw [hs2]
  repeat first|(apply x1;apply r0;apply r0)|apply w4|apply wd|apply w5
  exact rt1 (H' := H) rfl rfl (.refl _) (by repeat first|assumption|(apply su3;assumption;assumption)) hK
end Abs
end Go.Proofs.Ytpifnlodilcgkaa
