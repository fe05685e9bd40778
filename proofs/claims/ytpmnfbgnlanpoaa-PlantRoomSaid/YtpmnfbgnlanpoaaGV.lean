import Derived.Test.YtpmnfbgnlanpoaaGU
import Derived.Test.YtpmnfbgnlanpoaaW1
import Derived.Test.YtpmnfbgnlanpoaaGC
import Derived.Test.YtpmnfbgnlanpoaaY1
import Derived.Test.YtpmnfbgnlanpoaaB2
set_option linter.unusedVariables false
namespace Go.Proofs.Ytpmnfbgnlanpoaa
namespace Abs
/-! ### PlantRoom: plain law -/
theorem name_splitR {s : ByteArray} (h : NameIs s) : splitOf s = [s] := by
  have hne : byL s ≠ [] := fun e => h.ne (by rw [← ofL_byL s, e]; rfl)
  have hl : (byL s).getLast? ≠ some 47 := fun e => by
    obtain ⟨q, hq⟩ := List.getLast?_eq_some_iff.1 e
    exact has_not h.slash _ (by rw [hq]; simp) rfl
  rw [tail_none hl]
  unfold namesOf
  rw [splitL_one _ _ (has_not h.slash), List.nil_append, if_neg hne, List.map_singleton, ofL_byL]
theorem no_free {T : Tab} (hw : T.wf) (h : T.free = none) : T.used = T.room := used_all hw (fun j hj => by
  unfold Tab.free at h
  rw [List.find?_eq_none] at h
  have := h j (List.mem_range.2 (by omega))
  simpa using this)
theorem resolve_one {T : Tab} (ht : T.tree) {nm : ByteArray} (h : nameOk nm = true) : T.resolve rootC nm false = (⟨1, nm, (T.at 1).find nm⟩, 0) := by
  have hN := name_is h
  have h1 : T.has 1 = true := has_kind'.2 (by rw [ht.root]; decide)
  have hs := hN.size
  have hf : T.fitsE nm = 0 := by
    unfold Tab.fitsE
    rw [if_neg hN.ne, if_neg (show ¬ 64 < (nm.size : Int) by omega), if_neg (by rw [hN.nul]; decide), if_pos h1]
  unfold Tab.resolve
  rw [if_pos hf, name_splitR hN, show (2000 : Nat) = 1999 + 1 from rfl, walk_last hN]
  unfold Tab.lastOf
  rw [if_neg (fun q => q ht.root), root_can, h1, if_neg (by decide)]
theorem room_law {T : Tab} (hg : T.good) (ht : T.tree) {nm : ByteArray} (h : nameOk nm = true) :
    (T.plant rootC (T.resolve rootC nm false) (dirN 511 0)).2.2 = (if 0 < (T.at 1).find nm then 17 else if ((T.at 1).ents.length : Int) = 8 ∨ T.used = T.room then 28 else 0) ∧ (T.plant rootC (T.resolve rootC nm false) (dirN 511 0)).1.tree := by
  have h1 : T.has 1 = true := has_kind'.2 (by rw [ht.root]; decide)
  obtain ⟨_, d2, d3⟩ := dir_rising hg ht.root
  have d4 := (dirOk_iff ht.root).1 d2
  have d5 := (rising_iff _).1 d3
  constructor
  · rw [plant_err hg, resolve_one ht h]
    dsimp only
    rw [if_neg (fun q => q rfl)]
    by_cases f0 : (T.at 1).find nm = 0
    · rw [f0, if_neg (fun q => q rfl), if_neg (show ¬ (0 : Int) < 0 by decide), root_can, h1, if_neg (by decide)]
      by_cases l8 : ((T.at 1).ents.length : Int) = 8
      · rw [if_pos (by omega), if_pos (.inl l8)]
      rw [if_neg (by have := d5.2.2; omega)]
      by_cases u : T.used = T.room
      · rw [if_pos u, if_pos (.inr u)]
      have hm := (dirMode_ok 511 0 (T.at 1) d4.1.1).rng
      have hid : (idOk rootC.uid && idOk (if sgid (T.at 1).mode then (T.at 1).gid else rootC.gid)) = true := by
        split
        · rw [d4.1.2.2]; rfl
        · rfl
      rw [if_neg u, if_neg (show ¬ (((T.at 1).ents.length : Int) = 8 ∨ T.used = T.room) from fun q => q.elim l8 u), made_ok rootC _ _ d4.1.2.2 (.inr (.inl ⟨rfl, rfl, rfl, hm.1, by omega⟩)) rfl, hid, if_neg (by decide)]
      cases hf : T.free with
      | none => exact absurd (no_free hg.wf hf) u
      | some k => exact withE_ok ht.root h (by omega) ((find_zero d3).1 f0) (by have := d5.2.2; omega)
    · have hp : 0 < (T.at 1).find nm := by
        obtain ⟨e, he, _, hn⟩ := find_has f0
        have := (d5.1 e he).2
        omega
      rw [if_pos f0, if_pos hp]
  · by_cases hz : (T.plant rootC (T.resolve rootC nm false) (dirN 511 0)).2.2 = 0
    · exact (plant_tree hg ht (plant_ok hg _ _ _ hz).2.2 rfl).1
    · rw [plant_none hg _ _ _ hz]; exact ht
def okStrs (x : AVal) : Prop := ∃ l : List ByteArray, x = .sl (encStrs l) .no ∧ l.length ≤ maxLen
theorem opensV_strs : OpensV Try.prog 23 okStrs :=
  (opensV_slice (by kernel_rfl) Try.underlying23 (by decide) (opens_string (by kernel_rfl) Try.underlying9)).mono fun x ⟨rows, e, hl, hr⟩ => by
    obtain ⟨l, rfl, _⟩ := rows_map (enc := fun s : ByteArray => [AVal.s s]) (Q := fun _ => True) (rows := rows) (fun r h => by
      obtain ⟨⟨n, rfl, _⟩, _⟩ := hr r h
      exact ⟨n, rfl, trivial⟩)
    exact ⟨l, e, by simpa using hl⟩
end Abs
end Go.Proofs.Ytpmnfbgnlanpoaa

set_option linter.unusedVariables false
namespace Go.Proofs.Ytpmnfbgnlanpoaa
namespace Abs
set_option linter.unusedSimpArgs false
set_option maxRecDepth 10000
set_option maxHeartbeats 2000000
attribute [local irreducible] AOps AW AP ACalls thenQ inBlk noGoto

/-! ### PlantRoom -/
theorem wk3r {a b c d : AVal} (h : Wk c d) : Wk (.tup [a, b, c]) (.tup [a, b, d]) := .tup rfl (fun j h1 h2 => match j with | 0 => .refl _ | 1 => .refl _ | 2 => h)
theorem rootC_smallR : rootC.small := (by decide : (0 : Nat) ≤ 1073741824)
theorem plantRoom_c {room : Int} (hroom : 0 ≤ room ∧ room ≤ 255) {l : List Raw} (hl : l.length ≤ 9223372036854775807) {names : List ByteArray} {H : AHeap} {K : AVal → AHeap → Prop} (hK : K (.b true) H) :
    ACalls Try.prog 3 [.sc (.int .u8 room), .sl (encRaws l) .no, .sl (encStrs names) .no] H K := by
  refine acalls_body Try.func3 rfl rfl rfl ?_
  have ll := strs_len names
  repeat first|(apply x1;apply r0;apply r0)|(apply x9;apply r0)|apply w4|apply w6|apply w7|apply w5
  refine awake14_c ?_
  repeat first|(apply gO;first|(apply x1;apply r0;apply r0)|(apply xbd;apply r0)|apply w4)|(apply gW;first|apply w6|apply w7|(apply w9;apply r0)|apply wa)|apply w5
  refine s_alloc tk rfl rfl rfl (fun b8 hb8 => ?_); have hb := hb8; (try simp only [put_none_iff, prot_none_iff] at hb); (repeat obtain ⟨_, _, hb⟩ := hb)
  (apply xst;apply r0;(apply ps);apply r0)
  rw [put_put]
  refine aops_wk (ds := encCred rootC) rfl ?_
  repeat first|(apply x1;apply r0;apply r0)|apply w4|apply w6|apply w7|apply w5
  refine s_conv (r := room) tk rfl rfl rfl rfl (wrap_id ⟨by omega, by omega⟩) ?_
  repeat first|(apply x1;apply r0;apply r0)|(apply x2;apply r0;(apply q0);apply r0)|(apply x9;apply r0)
  refine ACalls.wk (built14_c (c := rootC) hl ?_ (fun T t hB ht => ?_)) (wk3r (wk_agg rfl))
  · repeat first|(apply gO;first|(apply x1;apply r0;apply r0)|apply w4|(apply w3;apply r0;apply r0))|(apply gW;first|apply w6|apply w7|(apply w8;apply r0)|apply wd)|apply w5|apply we
    exact rt1 (H' := H) rfl rfl (.refl _) (by repeat first|exact s0|(apply su1;assumption)) hK
  have hg := hB.good
  have htr := build_tree hB.tree
  have nb8 : b8 ≠ t := by
    have := (put_none_iff.1 ht)
    exact this.2.1
  have ht' : H t = none := (put_none_iff.1 ht).2.2
  repeat first|(apply x1;apply r0;apply r0)|(apply x5;apply r0)|apply w4|apply w6|apply w7|apply w5
  refine aw_cond rfl (fun g1 => ?_) (fun g1 => ?_)<;>first|replace g1:=of_decide_eq_true g1|replace g1:=of_decide_eq_false g1
  · repeat first|(apply x1;apply r0;apply r0)|apply w4|apply w6|apply w7|apply wd|apply w5|apply we
    exact rt1 (H' := H) rfl rfl (.refl _) (by repeat first|exact s0|(apply su1;assumption)) hK
  repeat first|(apply x1;apply r0;apply r0)|apply w4|apply w6|apply w7|apply wa|apply wb|apply w5
  generalize hY : AHeap.put _ t _ = Y
  have yT : Y t = some (.cells (encTab T)) := by rw [← hY]; exact (by apply get_eq;(focus apply ps);rfl)
  have y8 : Y b8 = some (.cells (encCred rootC)) := by rw [← hY]; exact (by apply get_eq;(focus with_reducible repeat first|assumption|apply ps|apply gp);rfl)
  have ys : H.sub Y := by rw [← hY]; exact (by repeat first|exact s0|(apply su1;assumption))
  clear hY
  refine aw_loop (fun s : Nat × Tab => s.1 ≤ names.length ∧ s.2.good ∧ s.2.tree) (fun s => [(2, .sl (encStrs names) .no), (8, .ptr b8 0), (9, .ptr t 0), (11, .i s.1)]) (fun s => Y.put t (.cells (encTab s.2))) (fun s => names.length - s.1) (0, T) ⟨Nat.zero_le _, hg, htr⟩ (by repeat (first | exact Fr.sub_nil _ | refine Fr.sub_cons rfl ?_)) (by simp only; rw [put_id' yT]; exact AHeap.sub_refl _) ?_
  rintro ⟨k, U⟩ ⟨hk, hgU, htU⟩
  simp only at hk hgU htU ⊢
  repeat first|(apply x1;apply r0;apply r0)|apply w4|apply w6|apply w7|apply w5
  refine aw_cond rfl (fun c1 => ?_) (fun c1 => ?_)<;>first|replace c1:=of_decide_eq_true c1|replace c1:=of_decide_eq_false c1
  case refine_2 =>
    repeat first|(apply gO;first|(apply x1;apply r0;apply r0)|apply w4)|(apply gW;first|apply w6|apply w7|apply wd|apply wc)|apply w5|apply wf|apply wh
    exact rt1 (H' := H) rfl rfl (.refl _) (by repeat first|assumption|(apply su1;assumption)) hK
  have c1' : k < names.length := by omega
  have hget := strs_get names k c1'
  generalize names[k] = nm at hget
  repeat first|(apply x1;apply r0;apply r0)|apply w6|apply w7|apply wa|apply wb|apply w5
  refine s_index tk rfl rfl rfl rfl (by omega) hget rfl ?_
  repeat first|(apply x3;apply r0)|(apply x9;apply r0)
  refine name_c ?_
  cases hnm : nameOk nm with
  | false =>
    repeat first|(apply gO;first|(apply x1;apply r0;apply r0)|apply w4)|(apply gW;first|apply w6|apply w7|(apply w8;apply r0)|apply wd)|apply w5|apply we|apply wj
    exact rt1 (H' := H) rfl rfl (.refl _) (by repeat first|assumption|(apply su1;assumption)) hK
  | true =>
    have hwU := hgU.wf
    obtain ⟨hr1, hr2⟩ := room_law hgU htU hnm
    have hgR := plant_good hgU rootC (U.resolve rootC nm false) (dirN 511 0)
    have hfew := at_few hgU 1
    have hsm := hfew.small
    have hle := ents_len (U.at 1).ents
    repeat first|(apply gO;first|(apply x1;apply r0;apply r0)|(apply x9;apply r0)|apply w4)|(apply gW;first|apply w6|apply w7|(apply w9;apply r0)|apply wa)|apply w5
    refine tget_c hwU (by apply q0) ?_
    repeat (apply x1;apply r0;apply r0)
    refine s_alloc tk rfl rfl rfl (fun b12 hb12 => ?_); have hb := hb12; (try simp only [put_none_iff, prot_none_iff] at hb); (repeat obtain ⟨_, _, hb⟩ := hb)
    have f12 : Y b12 = none := hb
    have n812 : b8 ≠ b12 := get_ne y8 f12
    have nt12 : t ≠ b12 := get_ne yT f12
    have nt8 : t ≠ b8 := Ne.symm nb8
    repeat first|(apply x1;apply r0;apply r0)|(apply xst;apply r0;(apply ps);apply r0)|apply w4|apply w6|apply w5
    refine aw_prot [b12] (allc (by apply q0) (allc0 _)) ?_
    refine aw_plan mixed (.take 0 (.take 1 (.take 2 (.take 3 (.take 4 (.one 5 (.take 6 (.take 7 .done)))))))) (by kernel_rfl) ?_
    repeat first|(apply y1;apply r0;apply r0)|(apply y2;apply r0;apply r0;(with_reducible repeat first|apply q0|apply pg|exact mm0);apply r0)
    refine d_index rfl rfl rfl rfl rfl rfl (by omega) hget rfl ?_
    repeat first|(apply x9;apply r0)|(apply y4;apply r0)|(apply y3;apply r0;apply r0)
    refine find_c hsm ?_
    repeat first|apply w4|(apply y1;apply r0;apply r0)|apply y0
    refine prot_done ?_
    repeat first|(apply x1;apply r0;apply r0)|(apply x2;apply r0;(apply q0);apply r0)|apply w6|apply w7|apply w5
    refine s_gsplit rfl rfl (fun l8 => ?_) (fun l8 => ?_)<;>first|replace l8:=of_decide_eq_true l8|replace l8:=of_decide_eq_false l8
    · have u1 : ((U.at 1).ents.length : Int) = 8 ∨ U.used = U.room := .inl (by rw [← hle]; exact l8)
      repeat first|(apply x1;apply r0;apply r0)|apply w4|(apply w3;apply r0;apply r0)|apply w6|apply w5
      repeat apply w6
      refine aw_prot [b8] (allc (by with_reducible repeat first|assumption|exact q1 ‹_›|apply q3) (allc0 _)) ?_
      refine aw_plan mixed (.take 0 (.take 1 (.take 2 (.take 3 (.take 4 (.take 5 (.one 6 (.take 7 .done)))))))) (by kernel_rfl) ?_
      repeat first|(apply y1;apply r0;apply r0)|(apply y2;apply r0;apply r0;(with_reducible repeat first|assumption|exact q1 ‹_›|apply pg|apply q3|exact mm0);apply r0)
      refine d_index rfl rfl rfl rfl rfl rfl (by omega) hget rfl ?_
      repeat first|(apply x9;apply r0)|(apply y4;apply r0)|(apply y3;apply r0;apply r0)
      refine ACalls.wk (mkdir_c (c := rootC) (mode := 511) (umask := 0) hgU rootC_smallR (by with_reducible repeat first|assumption|apply ps|apply gp|apply gq|apply nm1|exact nm0) ?_) (.refl _)
      rw [hr1]
      generalize U.plant rootC (U.resolve rootC nm false) (dirN 511 0) = R at hr2 hgR ⊢
      repeat first|apply w4|(apply y1;apply r0;apply r0)|apply y0
      simp only [put_put]
      refine prot_done_put (by simp only [List.mem_cons,List.not_mem_nil,or_false,not_or]; first|exact (by first|assumption|exact n1 ‹_› ‹_›|exact n2 ‹_› ‹_›|exact n3 ‹_› ‹_›|exact n4 ‹_› ‹_›)|exact ⟨(by first|assumption|exact n1 ‹_› ‹_›|exact n2 ‹_› ‹_›|exact n3 ‹_› ‹_›|exact n4 ‹_› ‹_›),(by first|assumption|exact n1 ‹_› ‹_›|exact n2 ‹_› ‹_›|exact n3 ‹_› ‹_›|exact n4 ‹_› ‹_›)⟩|exact ⟨(by first|assumption|exact n1 ‹_› ‹_›|exact n2 ‹_› ‹_›|exact n3 ‹_› ‹_›|exact n4 ‹_› ‹_›),(by first|assumption|exact n1 ‹_› ‹_›|exact n2 ‹_› ‹_›|exact n3 ‹_› ‹_›|exact n4 ‹_› ‹_›),(by first|assumption|exact n1 ‹_› ‹_›|exact n2 ‹_› ‹_›|exact n3 ‹_› ‹_›|exact n4 ‹_› ‹_›)⟩) ?_
      repeat first|(apply x1;apply r0;apply r0)|apply w4|apply w6|apply w7|(apply w8;apply r0)|apply w5
      refine aw_cond rfl (fun e8 => ?_) (fun e8 => ?_)<;>first|replace e8:=of_decide_eq_true e8|replace e8:=of_decide_eq_false e8
      · rw [if_pos e8]
        repeat first|(apply gO;first|(apply x1;apply r0;apply r0)|apply w4|(apply x6;apply r0;omega))|(apply gW;first|apply w6|apply w7|(apply w9;apply r0)|apply wa)|apply w5|apply wg
        exact ⟨(k + 1, R.1), ⟨by simp only; omega, hgR, hr2⟩, by simp only; omega, (by repeat (first | exact Fr.sub_nil _ | refine Fr.sub_cons rfl ?_)), (by repeat first|exact s1|(apply su2;assumption)|apply put_sub'|apply del_sub1)⟩
      rw [if_neg e8]
      first | rw [if_pos u1] | rw [if_neg u1]
      repeat first|(apply gO;first|(apply x1;apply r0;apply r0)|apply w4|(apply x6;apply r0;omega))|(apply gW;first|apply w6|apply w7|(apply w9;apply r0)|apply wa)|apply w5|apply wg
      exact ⟨(k + 1, R.1), ⟨by simp only; omega, hgR, hr2⟩, by simp only; omega, (by repeat (first | exact Fr.sub_nil _ | refine Fr.sub_cons rfl ?_)), (by repeat first|exact s1|(apply su2;assumption)|apply put_sub'|apply del_sub1)⟩
    have l8' : ¬ ((U.at 1).ents.length : Int) = 8 := by rw [← hle]; exact l8
    repeat first|(apply x1;apply r0;apply r0)|(apply x5;apply r0)|(apply x9;apply r0)
    refine used_c hwU (by with_reducible repeat first|assumption|apply q0|apply q3) ?_
    repeat first|(apply x1;apply r0;apply r0)|(apply x5;apply r0)|(apply x9;apply r0)
    refine room_c (by with_reducible repeat first|assumption|apply q0|apply q3) ?_
    repeat first|(apply x1;apply r0;apply r0)|(apply x5;apply r0)|apply w4|apply w6|apply w5
    repeat apply w6
    refine aw_prot [b8] (allc (by with_reducible repeat first|assumption|exact q1 ‹_›|apply q3) (allc0 _)) ?_
    refine aw_plan mixed (.take 0 (.take 1 (.take 2 (.take 3 (.take 4 (.take 5 (.one 6 (.take 7 .done)))))))) (by kernel_rfl) ?_
    repeat first|(apply y1;apply r0;apply r0)|(apply y2;apply r0;apply r0;(with_reducible repeat first|assumption|exact q1 ‹_›|apply pg|apply q3|exact mm0);apply r0)
    refine d_index rfl rfl rfl rfl rfl rfl (by omega) hget rfl ?_
    repeat first|(apply x9;apply r0)|(apply y4;apply r0)|(apply y3;apply r0;apply r0)
    refine ACalls.wk (mkdir_c (c := rootC) (mode := 511) (umask := 0) hgU rootC_smallR (by with_reducible repeat first|assumption|apply ps|apply gp|apply gq|apply nm1|exact nm0) ?_) (.refl _)
    rw [hr1]
    generalize U.plant rootC (U.resolve rootC nm false) (dirN 511 0) = R at hr2 hgR ⊢
    repeat first|apply w4|(apply y1;apply r0;apply r0)|apply y0
    simp only [put_put]
    refine prot_done_put (by simp only [List.mem_cons,List.not_mem_nil,or_false,not_or]; first|exact (by first|assumption|exact n1 ‹_› ‹_›|exact n2 ‹_› ‹_›|exact n3 ‹_› ‹_›|exact n4 ‹_› ‹_›)|exact ⟨(by first|assumption|exact n1 ‹_› ‹_›|exact n2 ‹_› ‹_›|exact n3 ‹_› ‹_›|exact n4 ‹_› ‹_›),(by first|assumption|exact n1 ‹_› ‹_›|exact n2 ‹_› ‹_›|exact n3 ‹_› ‹_›|exact n4 ‹_› ‹_›)⟩|exact ⟨(by first|assumption|exact n1 ‹_› ‹_›|exact n2 ‹_› ‹_›|exact n3 ‹_› ‹_›|exact n4 ‹_› ‹_›),(by first|assumption|exact n1 ‹_› ‹_›|exact n2 ‹_› ‹_›|exact n3 ‹_› ‹_›|exact n4 ‹_› ‹_›),(by first|assumption|exact n1 ‹_› ‹_›|exact n2 ‹_› ‹_›|exact n3 ‹_› ‹_›|exact n4 ‹_› ‹_›)⟩) ?_
    repeat first|(apply x1;apply r0;apply r0)|apply w4|apply w6|apply w7|apply w5
    refine aw_cond rfl (fun e7 => ?_) (fun e7 => ?_)<;>first|replace e7:=of_decide_eq_true e7|replace e7:=of_decide_eq_false e7
    · have u1 : ((U.at 1).ents.length : Int) = 8 ∨ U.used = U.room := .inr e7
      repeat first|(apply x1;apply r0;apply r0)|apply w4|apply w6|apply w7|apply w5
      refine aw_cond rfl (fun e8 => ?_) (fun e8 => ?_)<;>first|replace e8:=of_decide_eq_true e8|replace e8:=of_decide_eq_false e8
      · rw [if_pos e8]
        repeat first|(apply gO;first|(apply x1;apply r0;apply r0)|apply w4|(apply x6;apply r0;omega))|(apply gW;first|apply w6|apply w7|(apply w9;apply r0)|apply wa)|apply w5|apply wg
        exact ⟨(k + 1, R.1), ⟨by simp only; omega, hgR, hr2⟩, by simp only; omega, (by repeat (first | exact Fr.sub_nil _ | refine Fr.sub_cons rfl ?_)), (by repeat first|exact s1|(apply su2;assumption)|apply put_sub'|apply del_sub1)⟩
      rw [if_neg e8]
      first | rw [if_pos u1] | rw [if_neg u1]
      repeat first|(apply gO;first|(apply x1;apply r0;apply r0)|apply w4|(apply x6;apply r0;omega))|(apply gW;first|apply w6|apply w7|(apply w9;apply r0)|apply wa)|apply w5|apply wg
      exact ⟨(k + 1, R.1), ⟨by simp only; omega, hgR, hr2⟩, by simp only; omega, (by repeat (first | exact Fr.sub_nil _ | refine Fr.sub_cons rfl ?_)), (by repeat first|exact s1|(apply su2;assumption)|apply put_sub'|apply del_sub1)⟩
    have u1 : ¬ (((U.at 1).ents.length : Int) = 8 ∨ U.used = U.room) := fun q => q.elim l8' e7
    repeat first|(apply x1;apply r0;apply r0)|apply w4|apply w6|apply w7|apply wa|apply w5
    refine aw_cond rfl (fun e8 => ?_) (fun e8 => ?_)<;>first|replace e8:=of_decide_eq_true e8|replace e8:=of_decide_eq_false e8
    · rw [if_pos e8]
      repeat first|(apply gO;first|(apply x1;apply r0;apply r0)|apply w4|(apply x6;apply r0;omega))|(apply gW;first|apply w6|apply w7|(apply w9;apply r0)|apply wa)|apply w5|apply wg
      exact ⟨(k + 1, R.1), ⟨by simp only; omega, hgR, hr2⟩, by simp only; omega, (by repeat (first | exact Fr.sub_nil _ | refine Fr.sub_cons rfl ?_)), (by repeat first|exact s1|(apply su2;assumption)|apply put_sub'|apply del_sub1)⟩
    rw [if_neg e8]
    first | rw [if_pos u1] | rw [if_neg u1]
    repeat first|(apply gO;first|(apply x1;apply r0;apply r0)|apply w4|(apply x6;apply r0;omega))|(apply gW;first|apply w6|apply w7|(apply w9;apply r0)|apply wa)|apply w5|apply wg
    exact ⟨(k + 1, R.1), ⟨by simp only; omega, hgR, hr2⟩, by simp only; omega, (by repeat (first | exact Fr.sub_nil _ | refine Fr.sub_cons rfl ?_)), (by repeat first|exact s1|(apply su2;assumption)|apply put_sub'|apply del_sub1)⟩
end Abs
end Go.Proofs.Ytpmnfbgnlanpoaa
