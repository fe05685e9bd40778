import Derived.Test.YtpifnlodilcgkaaIA
import Derived.Test.YtpifnlodilcgkaaID
import Derived.Test.YtpifnlodilcgkaaIE
import Derived.Test.YtpifnlodilcgkaaY1
set_option linter.unusedVariables false
namespace Go.Proofs.Ytpifnlodilcgkaa
namespace Abs
set_option linter.unusedSimpArgs false
set_option maxRecDepth 10000
set_option maxHeartbeats 2000000
attribute [local irreducible] AOps AW AP ACalls thenQ inBlk noGoto

/-! ### chapter 10: the document's example -/
def exRaws10 : List Raw := [⟨2, 493, 0, 0, 0, ⟨#[]⟩, ⟨#[]⟩, ⟨#[]⟩, 0⟩, ⟨1, 0, 0, 0, 1, ⟨#[97]⟩, ⟨#[]⟩, ⟨#[]⟩, 0⟩, ⟨4, 0, 0, 0, 1, ⟨#[98]⟩, ⟨#[]⟩, ⟨#[]⟩, 2⟩]
def exRaws10b : List Raw := [⟨2, 0, 0, 0, 0, ⟨#[]⟩, ⟨#[]⟩, ⟨#[]⟩, 0⟩, ⟨1, 0, 0, 0, 2, ⟨#[97]⟩, ⟨#[]⟩, ⟨#[]⟩, 0⟩]
theorem exRaws10_few : ∀ r ∈ exRaws10, r.few := fun r hr => by
  simp only [exRaws10, List.mem_cons, List.not_mem_nil, or_false] at hr
  rcases hr with rfl | rfl | rfl <;> exact ⟨by decide, by decide, by decide⟩
theorem exRaws10b_few : ∀ r ∈ exRaws10b, r.few := fun r hr => by
  simp only [exRaws10b, List.mem_cons, List.not_mem_nil, or_false] at hr
  rcases hr with rfl | rfl <;> exact ⟨by decide, by decide, by decide⟩
def exTab10 : Tab := ((build 5 exRaws10).1).getD (Tab.new 1)
theorem exTab10_some : build 5 exRaws10 = (some exTab10, 0, 0) := by kernel_rfl
theorem exTab10_none : build 5 exRaws10b = (none, 1, 2) := by kernel_rfl
theorem exTab10_good : exTab10.good := good_build (by rw [exTab10_some])
theorem ex10_1 : exTab10.used = 2 := by kernel_rfl
theorem ex10_2 : exTab10.links 2 = 2 := by kernel_rfl
theorem ex10_3 : exTab10.right [] = true := by kernel_rfl
theorem ex10_4 : (encRaws exTab10.tell).length = 3 := by kernel_rfl
theorem awake10_c {H : AHeap} {K : AVal → AHeap → Prop} (hK : K (.b true) H) : ACalls Try.prog 22 [] H K := by
  refine acalls_body Try.func22 rfl rfl rfl ?_
  have hg := exTab10_good
  repeat first|(apply gO;first|(apply x1;apply r0;apply r0)|apply w4)|(apply gW;first|apply w6|apply w7)|apply w5
  refine xbd (v := .agg (encRawO ⟨2, 493, 0, 0, 0, ⟨#[]⟩, ⟨#[]⟩, ⟨#[]⟩, 0⟩ .full)) rfl ?_
  refine xbd (v := .agg (encRawO ⟨1, 0, 0, 0, 1, ⟨#[97]⟩, ⟨#[]⟩, ⟨#[]⟩, 0⟩ .full)) rfl ?_
  refine xbd (v := .agg (encRawO ⟨4, 0, 0, 0, 1, ⟨#[98]⟩, ⟨#[]⟩, ⟨#[]⟩, 2⟩ .full)) rfl ?_
  refine xbs (v := .sl [encRawO ⟨2, 493, 0, 0, 0, ⟨#[]⟩, ⟨#[]⟩, ⟨#[]⟩, 0⟩ .full, encRawO ⟨1, 0, 0, 0, 1, ⟨#[97]⟩, ⟨#[]⟩, ⟨#[]⟩, 0⟩ .full, encRawO ⟨4, 0, 0, 0, 1, ⟨#[98]⟩, ⟨#[]⟩, ⟨#[]⟩, 2⟩ .full] .full) rfl ?_
  apply x9; apply r0
  refine ACalls.wk (build_c (room := 5) (l := exRaws10) (o := .no) (by decide) exRaws10_few (fun h => by rw [exTab10_some] at h; cases h) (fun T t hT ht => ?_)) (.pair (.refl _) (wk_rows rfl))
  rw [exTab10_some] at hT ⊢
  cases hT
  repeat first|(apply gO;first|(apply x1;apply r0;apply r0)|apply w4)|(apply gW;first|apply w6|apply w7)|apply w5
  refine xbd (v := .agg (encRawO ⟨2, 0, 0, 0, 0, ⟨#[]⟩, ⟨#[]⟩, ⟨#[]⟩, 0⟩ .full)) rfl ?_
  refine xbd (v := .agg (encRawO ⟨1, 0, 0, 0, 2, ⟨#[97]⟩, ⟨#[]⟩, ⟨#[]⟩, 0⟩ .full)) rfl ?_
  refine xbs (v := .sl [encRawO ⟨2, 0, 0, 0, 0, ⟨#[]⟩, ⟨#[]⟩, ⟨#[]⟩, 0⟩ .full, encRawO ⟨1, 0, 0, 0, 2, ⟨#[97]⟩, ⟨#[]⟩, ⟨#[]⟩, 0⟩ .full] .full) rfl ?_
  apply x9; apply r0
  refine ACalls.wk (build_c (room := 5) (l := exRaws10b) (o := .no) (by decide) exRaws10b_few (fun h => ?_) (fun T t hT ht => by rw [exTab10_none] at hT; cases hT)) (.pair (.refl _) (wk_rows rfl))
  rw [exTab10_none]
  repeat first|(apply x1;apply r0;apply r0)|(apply x5;apply r0)|(apply x9;apply r0)|apply w4|apply w6|apply w7|apply w5
  refine used_c hg.wf (by apply q0) ?_
  rw [ex10_1]
  repeat first|(apply x1;apply r0;apply r0)|(apply x5;apply r0)|(apply x9;apply r0)
  refine links_c hg.wf (by apply q0) ?_
  rw [ex10_2]
  repeat first|(apply x1;apply r0;apply r0)|(apply x5;apply r0)|(apply x9;apply r0)
  refine tright_c (op := []) hg.wf (Nat.zero_le _) (by apply q0) ?_
  rw [ex10_3]
  repeat first|(apply x1;apply r0;apply r0)|(apply x5;apply r0)|(apply x9;apply r0)
  refine tell_c hg (by apply q0) ?_
  repeat first|(apply x1;apply r0;apply r0)|(apply x5;apply r0)|apply w4|apply wd|apply w5
  rw [ex10_4]
  skip
  exact rt1 (H' := H) rfl rfl (.refl _) (by repeat first|exact s0|(apply su1;assumption)) hK
end Abs
end Go.Proofs.Ytpifnlodilcgkaa

set_option linter.unusedVariables false
namespace Go.Proofs.Ytpifnlodilcgkaa
namespace Abs
set_option linter.unusedSimpArgs false
set_option maxRecDepth 10000
set_option maxHeartbeats 2000000
attribute [local irreducible] AOps AW AP ACalls thenQ inBlk noGoto

/-! ### BuildRight -/
theorem sumL_rng {T : Tab} (hw : T.wf) : ∀ k : Nat, 0 ≤ T.sumL k ∧ T.sumL k ≤ k * 25769803776
  | 0 => ⟨Int.le_refl _, by simp [Tab.sumL]⟩
  | k + 1 => by
    have h1 := sumL_rng hw k
    have h2 := links_le hw ((k : Int) + 1)
    rw [Tab.sumL]
    omega
theorem buildRight_c {room n : Int} (hr : 0 ≤ room ∧ room ≤ 255) {l : List Raw} (hl : l.length ≤ 9223372036854775807) (hn : 0 ≤ n ∧ n ≤ 255) {H : AHeap} {K : AVal → AHeap → Prop} (hK : K (.b true) H) :
    ACalls Try.prog 8 [.sc (.int .u8 room), .sl (encRaws l) .no, .sc (.int .u8 n)] H K := by
  refine acalls_body Try.func8 rfl rfl rfl ?_
  have ll := raws_len l
  repeat first|(apply x1;apply r0;apply r0)|(apply x9;apply r0)|apply w4|apply w6|apply w7|apply w5
  refine awake10_c ?_
  repeat first|(apply gO;first|(apply x1;apply r0;apply r0)|(apply x9;apply r0)|apply w4)|(apply gW;first|apply w6|apply w7|(apply w9;apply r0)|apply wa)|apply w5
  refine few10_c hl (fun q hq => ?_)
  repeat first|(apply x1;apply r0;apply r0)|apply w4|apply w6|apply w7|apply w5
  refine aw_cond rfl (fun c1 => ?_) (fun c1 => ?_)
  · repeat first|(apply x1;apply r0;apply r0)|apply w4|apply w6|apply w7|apply wd|apply w5|apply we
    exact rt1 (H' := H) rfl rfl (.refl _) s0 hK
  obtain ⟨hl50, hf⟩ := hq (by simpa using c1)
  have hbs := build_some (room := room) (l := l)
  repeat first|(apply x1;apply r0;apply r0)|apply w6|apply w7|apply wa|apply w5
  refine s_conv (r := room) tk rfl rfl rfl rfl (wrap_id ⟨by omega, by omega⟩) ?_
  repeat first|(apply x1;apply r0;apply r0)|(apply x9;apply r0)
  refine build_c (by omega) hf (fun h0 => ?_) (fun T t hT ht => ?_)
  · have he := hbs.2 h0
    repeat first|(apply x1;apply r0;apply r0)|apply w4|apply w6|apply w7|apply w5
    refine aw_cond rfl (fun c2 => ?_) (fun c2 => ?_)<;>first|replace c2:=not_t c2|replace c2:=not_f c2
    · repeat first|(apply x1;apply r0;apply r0)|apply w4|apply w6|apply w7|apply wd|apply w5|apply we
      exact rt1 (H' := H) rfl rfl (.refl _) s0 hK
    · exact absurd c2 he
  have hg := good_build hT
  have he := hbs.1 (by rw [hT]; simp)
  obtain ⟨b1', b2', -⟩ := bt_build2 hT
  have hlp : 0 < l.length := by
    cases l with
    | nil => cases hT
    | cons a l => exact Nat.zero_lt_succ _
  rw [he]
  repeat first|(apply gO;first|(apply x1;apply r0;apply r0)|apply w4)|(apply gW;first|apply w6|apply w7|(apply w9;apply r0)|apply wa|apply wb)|apply w5
  generalize hX : AHeap.put H t _ = X
  have xT : X t = some (.cells (encTab T)) := by rw [← hX]; exact (by apply get_eq;(focus apply ps);rfl)
  have xs' : H.sub X := by rw [← hX]; exact (by repeat first|exact s0|(apply su1;assumption))
  clear hX
  refine aw_loop (fun k : Nat => k ≤ l.length) (fun k => [(0, .sc (.int .u8 room)), (1, .sl (encRaws l) .no), (2, .sc (.int .u8 n)), (9, .ptr t 0), (12, .i (cntN (l.take k))), (13, .i 0), (14, .i k)]) (fun _ => X) (fun k => l.length - k) 0 (Nat.zero_le _) (by repeat (first | exact Fr.sub_nil _ | refine Fr.sub_cons rfl ?_)) (AHeap.sub_refl _) ?_
  intro k hk
  repeat first|(apply x1;apply r0;apply r0)|apply w4|apply w6|apply w7|apply w5
  refine aw_cond rfl (fun c3 => ?_) (fun c3 => ?_)<;>first|replace c3:=of_decide_eq_true c3|replace c3:=of_decide_eq_false c3
  · have c3' : k < l.length := by omega
    have hget : (encRaws l)[(k : Int).toNat]? = some (encRaw l[k]) := by simp [encRaws, c3']
    have hct := cntN_take c3'
    have hcl := cntN_le (l.take k)
    have hcl2 : (l.take k).length ≤ 50 := by rw [List.length_take]; omega
    repeat first|(apply x1;apply r0;apply r0)|apply w6|apply w7|apply wa|apply wb|apply w5
    refine s_index tk rfl rfl rfl rfl (by omega) hget rfl ?_
    repeat first|(apply x1;apply r0;apply r0)|(apply x3;apply r0)|apply w4|apply w5
    refine aw_cond rfl (fun c4 => ?_) (fun c4 => ?_)<;>first|replace c4:=not_t c4|replace c4:=not_f c4
    · rw [if_neg c4] at hct
      repeat first|(apply x1;apply r0;apply r0)|apply w4|(apply x6;apply r0;omega)|apply w7|apply w5|apply wg
      refine ⟨k + 1, c3', by omega, ?_, AHeap.sub_refl _⟩
      rw [hct]
      exact (by repeat (first | exact Fr.sub_nil _ | refine Fr.sub_cons rfl ?_))
    · rw [if_pos (show l[k].kind = 4 by omega)] at hct
      repeat first|(apply x1;apply r0;apply r0)|apply w4|(apply x6;apply r0;omega)|apply w7|apply wa|apply w5|apply wg
      refine ⟨k + 1, c3', by omega, ?_, AHeap.sub_refl _⟩
      rw [hct]
      exact (by repeat (first | exact Fr.sub_nil _ | refine Fr.sub_cons rfl ?_))
  have hke : k = l.length := by omega
  subst hke
  rw [List.take_length]
  repeat first|(apply gO;first|(apply x1;apply r0;apply r0)|apply w4)|(apply gW;first|apply w6|apply w7|apply wb|apply wc)|apply w5|apply wf|apply wh
  refine aw_loop (fun k : Nat => k ≤ 24) (fun k => [(0, .sc (.int .u8 room)), (1, .sl (encRaws l) .no), (2, .sc (.int .u8 n)), (9, .ptr t 0), (12, .i (cntN l)), (13, .i (T.sumL k)), (15, .i ((k : Int) + 1))]) (fun _ => X) (fun k => 24 - k) 0 (Nat.zero_le _) (by repeat (first | exact Fr.sub_nil _ | refine Fr.sub_cons rfl ?_)) (AHeap.sub_refl _) ?_
  intro k hk
  have hsr := sumL_rng hg.wf k
  repeat first|(apply x1;apply r0;apply r0)|apply w4|apply w6|apply w7|apply w5
  refine aw_cond rfl (fun c5 => ?_) (fun c5 => ?_)<;>first|replace c5:=of_decide_eq_true c5|replace c5:=of_decide_eq_false c5
  · have hlr := links_le hg.wf ((k : Int) + 1)
    repeat first|(apply x1;apply r0;apply r0)|(apply x9;apply r0)|apply w6|apply w7|apply wa|apply wb|apply w5
    refine links_c hg.wf (by with_reducible repeat exact q1 ‹_›) ?_
    repeat first|(apply x1;apply r0;apply r0)|apply w4|(apply x6;apply r0;omega)|apply w7|apply w5|apply wg
    refine ⟨k + 1, by omega, by omega, (by repeat (first | exact Fr.sub_nil _ | refine Fr.sub_cons rfl ?_)), AHeap.sub_refl _⟩
  have hke : k = 24 := by omega
  subst hke
  repeat first|(apply x1;apply r0;apply r0)|apply w6|apply w7|apply wc|apply w5|apply wf|apply wh
  refine s_conv (r := n) tk rfl rfl rfl rfl (wrap_id ⟨by omega, by omega⟩) ?_
  repeat (apply x1;apply r0;apply r0)
  refine s_rem rfl rfl rfl (by omega) hn.1 ?_
  have hm1 := Int.emod_nonneg n (show ((((encRaws l).length : Nat) : Int)) ≠ 0 by omega)
  have hm2 := Int.emod_lt_of_pos n (show 0 < ((((encRaws l).length : Nat) : Int)) by omega)
  obtain ⟨nn, hnn⟩ : ∃ nn : Nat, (nn : Int) = n % ((((encRaws l).length : Nat) : Int)) := ⟨(n % ((((encRaws l).length : Nat) : Int))).toNat, Int.toNat_of_nonneg hm1⟩
  rw [← hnn] at hm2 ⊢
  have hnl : nn < l.length := by omega
  repeat first|(apply x1;apply r0;apply r0)|apply w4|(apply x6;apply r0;omega)|apply w6|apply w7|apply w5
  refine s_conv (r := room) tk rfl rfl rfl rfl (wrap_id ⟨by omega, by omega⟩) ?_
  repeat (apply x1;apply r0;apply r0)
  refine s_slice (l := 0) (h := (nn : Int) + 1) tk rfl rfl rfl (raws_uni _) rfl rfl (by decide) (by omega) (by omega) ?_
  rw [show ((encRaws l).take ((nn : Int) + 1).toNat).drop (0 : Int).toNat = encRaws (l.take (nn + 1)) by
    rw [show ((nn : Int) + 1).toNat = nn + 1 by omega]
    show (encRaws l).take (nn + 1) = _
    unfold encRaws; rw [List.map_take]]
  have hpre := build_pre (room := room) (l := l) (k := nn + 1) (Nat.zero_lt_succ _) (by rw [hT]; simp)
  have hbs2 := build_some (room := room) (l := l.take (nn + 1))
  repeat (apply x9;apply r0)
  refine build_c (by rw [List.length_take]; omega) (fun r hr => hf r (List.mem_of_mem_take hr)) (fun h0 => absurd h0 hpre) (fun U u hU hu => ?_)
  have hgU := good_build hU
  rw [hbs2.1 hpre]
  have r1' := (right_iff hg).2 (build_tree hT)
  have r2' := (right_iff hgU).2 (build_tree hU)
  repeat first|(apply x1;apply r0;apply r0)|(apply x9;apply r0)|apply w4|apply w6|apply w7|apply w5
  refine tright_c (op := []) hg.wf (Nat.zero_le _) (by with_reducible repeat first|exact q1 ‹_›|apply q3|exact n2 ‹_› ‹_›) ?_
  rw [r1']
  repeat first|(apply x1;apply r0;apply r0)|(apply x5;apply r0)|(apply x9;apply r0)
  refine used_c hg.wf (by with_reducible repeat first|exact q1 ‹_›|apply q3|exact n2 ‹_› ‹_›) ?_
  rw [bt_used b1']
  repeat first|(apply x1;apply r0;apply r0)|(apply x5;apply r0)
  refine s_gsplit rfl rfl (fun v1 => ?_) (fun v1 => ?_)<;>first|replace v1:=of_decide_eq_true v1|replace v1:=of_decide_eq_false v1
  case refine_2 => exact absurd rfl v1
  repeat first|(apply x1;apply r0;apply r0)|(apply x5;apply r0)|(apply x7;apply r0;omega)
  refine s_gsplit rfl rfl (fun v2 => ?_) (fun v2 => ?_)<;>first|replace v2:=of_decide_eq_true v2|replace v2:=of_decide_eq_false v2
  case refine_2 => exact absurd (by omega) v2
  repeat first|(apply x1;apply r0;apply r0)|(apply x5;apply r0)|(apply x9;apply r0)
  refine tright_c (op := []) hgU.wf (Nat.zero_le _) (by apply q0) ?_
  rw [r2']
  repeat first|(apply x1;apply r0;apply r0)|apply w4|apply wd|apply w5
  exact rt1 (H' := H) rfl rfl (.refl _) (by repeat first|assumption|(apply su3;assumption;assumption)) hK
end Abs
end Go.Proofs.Ytpifnlodilcgkaa
