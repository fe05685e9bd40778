import Derived.Test.YtkopeigfjjbajaaGreatYA
import Derived.Test.YtkopeigfjjbajaaGreatZ7
set_option linter.unusedVariables false
namespace Go.Proofs.YtkopeigfjjbajaaGreat
namespace Abs
set_option linter.unusedSimpArgs false
set_option maxRecDepth 10000
set_option maxHeartbeats 2000000
attribute [local irreducible] AOps AW AP ACalls thenQ inBlk noGoto

/-! ### LookBelow -/
theorem list_ok {T : Tab} (hg : T.good) {c : Cred} {path : ByteArray} (h : (T.list c path).2 = 0) : ∃ i, T.has i = true ∧ T.look c path true = (T.stat i, 0) ∧ (T.at i).kind = 2 ∧ (T.list c path).1 = entNames (T.at i).ents ∧ (T.resolve c path true).2 = 0 ∧ (T.resolve c path true).1.node = i ∧ rising (T.at i).ents = true := by
  unfold Tab.list at h ⊢
  by_cases h1 : (T.look c path true).2 = 0
  · obtain ⟨i, a1, a2, a3, a4, a5, a6, a7⟩ := look_kind h1
    rw [if_neg (fun q => q h1)] at h ⊢
    rw [a2] at h ⊢
    dsimp only at h ⊢
    rw [a3, a4] at h ⊢
    by_cases h2 : (T.at i).kind = 2
    · rw [if_neg (fun q => q h2)] at h ⊢
      by_cases h3 : T.can c i 4 = false
      · rw [if_pos h3] at h; exact absurd h (show ¬ (13 : Int) = 0 by decide)
      · rw [if_neg h3]
        have hr := at_rising hg h2
        exact ⟨i, a1, rfl, h2, names_sorted hr, a6, a7, hr⟩
    · rw [if_pos h2] at h; exact absurd h (show ¬ (20 : Int) = 0 by decide)
  · rw [if_pos h1] at h; exact absurd h h1
theorem list_err {T : Tab} {c : Cred} {path : ByteArray} (h : ¬ (T.list c path).2 = 0) : (T.list c path).1 = [] := by
  unfold Tab.list at h ⊢
  split
  · rfl
  · split
    · rfl
    · split
      · rfl
      · rename_i h1 h2 h3
        rw [if_neg h1, if_neg h2, if_neg h3] at h
        exact absurd rfl h
theorem below_look {T : Tab} (hg : T.good) (ht : T.tree) {c : Cred} {path : ByteArray} (h40 : path.size ≤ 40) {i : Int} (hr : (T.resolve c path true).2 = 0) (hi : (T.resolve c path true).1.node = i) (hh : T.has i = true) (hk : (T.at i).kind = 2) (hrs : rising (T.at i).ents = true) {k : Nat} (c' : k < (T.at i).ents.length) :
    T.look c (joinOf path (T.at i).ents[k].name) false = if T.can c i 1 = false then (Stat.zero, 13) else (T.stat (T.at i).ents[k].node, 0) := by
  have hok : entOk (T.at i).ents[k] := ((rising_iff _).1 hrs).1 _ (List.getElem_mem c')
  have hb := resolve_below hg ht (c := c) (s := (T.at i).ents[k].name) h40 hok.1 hr (by rw [hi]; exact has_pos hh)
  rw [hi] at hb
  unfold Tab.lastOf at hb
  rw [if_neg (fun q => q hk)] at hb
  unfold Tab.look
  by_cases hc : T.can c i 1 = false
  · rw [if_pos hc] at hb
    rw [hb, if_pos hc, if_neg (by decide)]
  · rw [if_neg hc] at hb
    have hn : T.has (T.at i).ents[k].node = true := ht.ents i _ ⟨_, List.getElem_mem c', rfl⟩
    rw [hb, if_neg hc, if_pos rfl, find_at hrs c', hn, if_pos rfl]
theorem lookBelow_c {room : Int} {l : List Raw} (hl : l.length ≤ 9223372036854775807) {c : Cred} {path : ByteArray} {H : AHeap} {K : AVal → AHeap → Prop} (hK : K (.b true) H) :
    ACalls Tryz.prog 6 [.i room, .sl (encRaws l) .no, .agg (encCred c), .s path] H K := by
  refine acalls_body Tryz.func6 rfl rfl rfl ?_
  repeat first|apply w6|apply w7
  refine s_box rfl rfl rfl (fun b6 hb6 => ?_); have hb := hb6; (try simp only [put_none_iff, prot_none_iff] at hb); (repeat obtain ⟨_, _, hb⟩ := hb)
  repeat first|(apply x1;apply r0;apply r0)|(apply x9;apply r0)|apply w4|apply w6|apply w7|apply w5
  refine awake12_c ?_
  repeat first|(apply gO;first|(apply x1;apply r0;apply r0)|(apply x2;apply r0;(apply q0);apply r0)|(apply x9;apply r0)|apply w4)|(apply gW;first|apply w6|apply w7|(apply w9;apply r0)|apply wa)|apply w5
  refine built12_c hl ?_ (fun T t hB ht => ?_)
  · repeat first|(apply gO;first|(apply x1;apply r0;apply r0)|apply w4|(apply w3;apply r0;apply r0))|(apply gW;first|apply w6|apply w7|(apply w8;apply r0)|apply wd)|apply w5|apply we
    exact rt1 (H' := H) rfl rfl (.refl _) (by repeat first|exact s0|(apply su1;assumption)) hK
  have hg := hB.good
  have hc := hB.small
  have htr := build_tree hB.tree
  have nb7 : b6 ≠ t := by
    have := (put_none_iff.1 ht)
    exact this.2.1
  have ht' : H t = none := (put_none_iff.1 ht).2.2
  repeat first|(apply x1;apply r0;apply r0)|(apply x5;apply r0)|apply w4|apply w6|apply w7|apply w5
  refine aw_cond rfl (fun g1 => ?_) (fun g1 => ?_)<;>first|replace g1:=of_decide_eq_true g1|replace g1:=of_decide_eq_false g1
  · repeat first|(apply x1;apply r0;apply r0)|apply w4|apply w6|apply w7|apply wd|apply w5|apply we
    exact rt1 (H' := H) rfl rfl (.refl _) (by repeat first|exact s0|(apply su1;assumption)) hK
  have h40 : path.size ≤ 40 := by omega
  repeat first|(apply x1;apply r0;apply r0)|(apply x2;apply r0;(with_reducible repeat first|assumption|apply q0|apply q3);apply r0)|(apply x9;apply r0)|apply w6|apply w7|apply wa|apply w5
  refine list_c hg hc (by apply q0) (fun o => ?_)
  have hlo := list_ok (T := T) hg (c := c) (path := path)
  have hle := list_err (T := T) (c := c) (path := path)
  generalize T.list c path = va at hlo hle ⊢
  obtain ⟨nms, e⟩ := va
  dsimp only at hlo hle ⊢
  repeat first|(apply x1;apply r0;apply r0)|apply w4|apply w6|apply w7|apply w5
  refine aw_cond rfl (fun g2 => ?_) (fun g2 => ?_)<;>first|replace g2:=not_t g2|replace g2:=not_f g2
  · have hn0 := hle g2
    subst hn0
    repeat first|(apply x1;apply r0;apply r0)|apply w4|apply w6|apply w7|apply wd|apply w5|apply we
    exact rt1 (H' := H) rfl rfl (.refl _) (by repeat first|exact s0|(apply su1;assumption)) hK
  have g2' : e = 0 := g2
  subst g2'
  obtain ⟨i, i1, i2, i3, i4, i5, i6, i7⟩ := hlo rfl
  subst i4
  have hst : T.stat i = ⟨i, (T.at i).kind, (T.at i).mode, (T.at i).uid, (T.at i).gid, T.links i, (T.at i).size⟩ := by unfold Tab.stat; rw [if_pos i1]
  have hsize : (T.at i).size = ((T.at i).ents.length : Int) := by unfold Node.size; rw [i3]; rfl
  have hlen : (encStrs (entNames (T.at i).ents)).length = (T.at i).ents.length := by simp [encStrs, entNames]
  have h8 : (T.at i).ents.length ≤ 8 := ((rising_iff _).1 i7).2.2
  repeat first|(apply x1;apply r0;apply r0)|(apply x2;apply r0;(with_reducible repeat first|assumption|apply q0|apply q3);apply r0)|(apply x9;apply r0)|apply w6|apply w7|apply wa|apply w5
  refine lstat_c hg hc (by apply q0) ?_
  rw [i2, hst, i3, hsize]
  repeat (apply x1;apply r0;apply r0)
  refine s_alloc tk rfl rfl rfl (fun b14 hb14 => ?_); have hb := hb14; (try simp only [put_none_iff, prot_none_iff] at hb); (repeat obtain ⟨_, _, hb⟩ := hb)
  repeat first|(apply gO;first|(apply x1;apply r0;apply r0)|(apply x2;apply r0;(with_reducible repeat first|apply q0|apply ps);apply r0)|(apply xst;apply r0;(with_reducible repeat first|apply q0|apply ps);apply r0)|(apply x5;apply r0)|apply w4)|(apply gW;first|apply w6|apply w7)|apply w5
  refine aw_cond rfl (fun g3 => ?_) (fun g3 => ?_)<;>first|replace g3:=not_t g3|replace g3:=not_f g3
  · exact absurd (by rw [hlen]) g3
  repeat first|(apply x1;apply r0;apply r0)|apply w4|apply w6|apply w7|apply wa|apply wb|apply w5
  generalize hY : AHeap.put _ b14 _ = Y
  have yT : Rd Y t (encTab T) := by rw [← hY]; exact (by apply rd_eq;(focus with_reducible repeat first|assumption|apply q0|apply q3);rfl)
  have y6' : Rd Y b6 (encCred c) := by rw [← hY]; exact (by apply rd_eq;(focus with_reducible repeat first|assumption|apply q0|apply q3);rfl)
  have ys : H.sub Y := by rw [← hY]; exact (by repeat first|exact s0|(apply su1;assumption))
  clear hY
  have i5r : (T.resolve rootC path true).2 = 0 ∧ (T.resolve rootC path true).1.node = i := by
    obtain ⟨hr, -⟩ := resolve_root T c path true
    rcases hr with e | e
    · rw [← e]; exact ⟨i5, i6⟩
    · rw [e] at i5; exact absurd i5 (by decide)
  refine aw_loop (fun k : Nat => k ≤ (T.at i).ents.length) (fun k => [(3, .s path), (6, .ptr b6 0), (10, .ptr t 0), (12, .sl (encStrs (entNames (T.at i).ents)) o), (16, .i k)]) (fun _ => Y) (fun k => (T.at i).ents.length - k) 0 (Nat.zero_le _) (by repeat (first | exact Fr.sub_nil _ | refine Fr.sub_cons rfl ?_)) (AHeap.sub_refl _) ?_
  intro k hk
  repeat first|(apply x1;apply r0;apply r0)|apply w4|apply w6|apply w7|apply w5
  refine aw_cond rfl (fun c1 => ?_) (fun c1 => ?_)<;>first|replace c1:=of_decide_eq_true c1|replace c1:=of_decide_eq_false c1
  case refine_2 =>
    repeat first|(apply gO;first|(apply x1;apply r0;apply r0)|apply w4)|(apply gW;first|apply w6|apply w7|apply wd|apply wc)|apply w5|apply wf|apply wh
    exact rt1 (H' := H) rfl rfl (.refl _) (by repeat assumption) hK
  have c' : k < (T.at i).ents.length := by omega
  have hgx : (encStrs (entNames (T.at i).ents))[(k : Int).toNat]? = some [.s (T.at i).ents[k].name] := by simp [encStrs, entNames, c']
  have hL := below_look hg htr (c := c) h40 i5 i6 i1 i3 i7 c'
  have hR := below_look hg htr (c := rootC) h40 i5r.1 i5r.2 i1 i3 i7 c'
  rw [root_can, i1, if_neg (by decide)] at hR
  have hok : entOk (T.at i).ents[k] := ((rising_iff _).1 i7).1 _ (List.getElem_mem c')
  have hn : T.has (T.at i).ents[k].node = true := htr.ents i _ ⟨_, List.getElem_mem c', rfl⟩
  have hlk : 0 < T.links (T.at i).ents[k].node := (links_pos hg.wf).2 ⟨i, _, List.getElem_mem c', rfl⟩
  have hs12 : (T.at i).ents[k].name.size ≤ 12 := (name_is hok.1).size
  have hne := has_pos hn
  generalize (T.at i).ents[k].name = nm at hgx hL hR hs12
  generalize (T.at i).ents[k].node = nd at hL hR hn hlk hne
  have hsn : T.stat nd = ⟨nd, (T.at nd).kind, (T.at nd).mode, (T.at nd).uid, (T.at nd).gid, T.links nd, (T.at nd).size⟩ := by unfold Tab.stat; rw [if_pos hn]
  repeat first|apply w6|apply wa|apply wb|apply w5
  repeat apply w6
  refine aw_cutS (fun F' H' => ∃ b17, Y b17 = none ∧ Fr.sub [(3, .s path), (6, .ptr b6 0), (10, .ptr t 0), (12, .sl (encStrs (entNames (T.at i).ents)) o), (16, .i k), (17, .ptr b17 0), (18, .i (T.look c (joinOf path nm) false).2)] F' ∧ (Y.put b17 (.cells (encSt (T.look c (joinOf path nm) false).1))).sub H') ?_ ?_
  · refine aw_prot [b6] (allc (by with_reducible assumption) (allc0 _)) ?_
    refine aw_plan mixed (.take 0 (.take 1 (.take 2 (.take 3 (.take 4 (.take 5 (.take 6 (.two 7 12 (.two 8 12 (.take 9 (.take 10 (.take 11 (.one 12 (.one 13 (.take 14 .done)))))) (.one 8 (.take 9 (.take 10 (.take 11 (.one 13 (.take 14 .done))))))) (.one 7 (.one 8 (.take 9 (.take 10 (.take 11 (.one 13 (.take 14 .done))))))))))))))) (by kernel_rfl) ?_
    repeat first|(apply y1;apply r0;apply r0)|(apply y2;apply r0;apply r0;(with_reducible repeat first|assumption|apply pg|exact mm0);apply r0)
    refine d_index rfl rfl rfl rfl rfl rfl (by omega) hgx rfl ?_
    repeat (apply y3;apply r0;apply r0)
    refine e_two rfl rfl ?_ ?_
    · repeat (apply x9;apply r0)
      refine join_c (by omega) (by omega) ?_
      repeat apply w4
      refine e_two rfl rfl ?_ ?_
      · repeat (apply x9;apply r0)
        refine llstat_c hg hc (by with_reducible repeat first|assumption|apply q4) ?_
        repeat first|apply w4|(apply y1;apply r0;apply r0)|(apply y4;apply r0)
        skip
        refine s_alloc tk rfl rfl rfl (fun b17 hb17 => ?_); have hb := hb17; (try simp only [put_none_iff, prot_none_iff] at hb); (repeat obtain ⟨_, _, hb⟩ := hb)
        repeat first|(apply xst;apply r0;(apply ps);apply r0)|apply w4|(apply y1;apply r0;apply r0)|apply y0|(apply y4;apply r0)
        skip
        simp only [put_put]
        refine prot_done_put (by simp only [List.mem_cons,List.not_mem_nil,or_false,not_or]; first|exact (by first|assumption|exact n1 ‹_› ‹_›|exact n2 ‹_› ‹_›|exact n3 ‹_› ‹_›|exact n4 ‹_› ‹_›)|exact ⟨(by first|assumption|exact n1 ‹_› ‹_›|exact n2 ‹_› ‹_›|exact n3 ‹_› ‹_›|exact n4 ‹_› ‹_›),(by first|assumption|exact n1 ‹_› ‹_›|exact n2 ‹_› ‹_›|exact n3 ‹_› ‹_›|exact n4 ‹_› ‹_›)⟩|exact ⟨(by first|assumption|exact n1 ‹_› ‹_›|exact n2 ‹_› ‹_›|exact n3 ‹_› ‹_›|exact n4 ‹_› ‹_›),(by first|assumption|exact n1 ‹_› ‹_›|exact n2 ‹_› ‹_›|exact n3 ‹_› ‹_›|exact n4 ‹_› ‹_›),(by first|assumption|exact n1 ‹_› ‹_›|exact n2 ‹_› ‹_›|exact n3 ‹_› ‹_›|exact n4 ‹_› ‹_›)⟩) ?_
        repeat apply w5
        exact ⟨b17, hb, (by repeat (first | exact Fr.sub_nil _ | refine Fr.sub_cons rfl ?_)), s0⟩
      · skip
        refine s_alloc tk rfl rfl rfl (fun b17 hb17 => ?_); have hb := hb17; (try simp only [put_none_iff, prot_none_iff] at hb); (repeat obtain ⟨_, _, hb⟩ := hb)
        repeat first|(apply x9;apply r0)|apply w4|(apply y4;apply r0)
        skip
        refine llstat_c hg hc (by with_reducible repeat first|assumption|apply q4|apply q3|exact n1 ‹_› ‹_›) ?_
        repeat first|(apply xst;apply r0;(apply ps);apply r0)|apply w4|(apply y1;apply r0;apply r0)|apply y0|(apply y4;apply r0)
        skip
        simp only [put_put]
        refine prot_done_put (by simp only [List.mem_cons,List.not_mem_nil,or_false,not_or]; first|exact (by first|assumption|exact n1 ‹_› ‹_›|exact n2 ‹_› ‹_›|exact n3 ‹_› ‹_›|exact n4 ‹_› ‹_›)|exact ⟨(by first|assumption|exact n1 ‹_› ‹_›|exact n2 ‹_› ‹_›|exact n3 ‹_› ‹_›|exact n4 ‹_› ‹_›),(by first|assumption|exact n1 ‹_› ‹_›|exact n2 ‹_› ‹_›|exact n3 ‹_› ‹_›|exact n4 ‹_› ‹_›)⟩|exact ⟨(by first|assumption|exact n1 ‹_› ‹_›|exact n2 ‹_› ‹_›|exact n3 ‹_› ‹_›|exact n4 ‹_› ‹_›),(by first|assumption|exact n1 ‹_› ‹_›|exact n2 ‹_› ‹_›|exact n3 ‹_› ‹_›|exact n4 ‹_› ‹_›),(by first|assumption|exact n1 ‹_› ‹_›|exact n2 ‹_› ‹_›|exact n3 ‹_› ‹_›|exact n4 ‹_› ‹_›)⟩) ?_
        repeat apply w5
        exact ⟨b17, hb, (by repeat (first | exact Fr.sub_nil _ | refine Fr.sub_cons rfl ?_)), s0⟩
    · skip
      refine s_alloc tk rfl rfl rfl (fun b17 hb17 => ?_); have hb := hb17; (try simp only [put_none_iff, prot_none_iff] at hb); (repeat obtain ⟨_, _, hb⟩ := hb)
      repeat first|(apply x9;apply r0)|apply w4|(apply y4;apply r0)
      skip
      refine join_c (by omega) (by omega) ?_
      repeat first|(apply x9;apply r0)|apply w4|(apply y4;apply r0)
      skip
      refine llstat_c hg hc (by with_reducible repeat first|assumption|apply q4|apply q3|exact n1 ‹_› ‹_›) ?_
      repeat first|(apply xst;apply r0;(apply ps);apply r0)|apply w4|(apply y1;apply r0;apply r0)|apply y0|(apply y4;apply r0)
      skip
      simp only [put_put]
      refine prot_done_put (by simp only [List.mem_cons,List.not_mem_nil,or_false,not_or]; first|exact (by first|assumption|exact n1 ‹_› ‹_›|exact n2 ‹_› ‹_›|exact n3 ‹_› ‹_›|exact n4 ‹_› ‹_›)|exact ⟨(by first|assumption|exact n1 ‹_› ‹_›|exact n2 ‹_› ‹_›|exact n3 ‹_› ‹_›|exact n4 ‹_› ‹_›),(by first|assumption|exact n1 ‹_› ‹_›|exact n2 ‹_› ‹_›|exact n3 ‹_› ‹_›|exact n4 ‹_› ‹_›)⟩|exact ⟨(by first|assumption|exact n1 ‹_› ‹_›|exact n2 ‹_› ‹_›|exact n3 ‹_› ‹_›|exact n4 ‹_› ‹_›),(by first|assumption|exact n1 ‹_› ‹_›|exact n2 ‹_› ‹_›|exact n3 ‹_› ‹_›|exact n4 ‹_› ‹_›),(by first|assumption|exact n1 ‹_› ‹_›|exact n2 ‹_› ‹_›|exact n3 ‹_› ‹_›|exact n4 ‹_› ‹_›)⟩) ?_
      repeat apply w5
      exact ⟨b17, hb, (by repeat (first | exact Fr.sub_nil _ | refine Fr.sub_cons rfl ?_)), s0⟩
  rintro F' H' ⟨b17, h17, hF, hH⟩
  refine AW_sub ?_ hF hH
  clear hF hH
  have f17 : H b17 = none := sub_none ys h17
  have n617 : b6 ≠ b17 := rd_ne y6' h17
  have nt17 : t ≠ b17 := rd_ne yT h17
  rw [hsn] at hL hR
  rcases hcn : T.can c i 1
  · rw [if_pos hcn] at hL
    rw [hL]
    repeat first|(apply gO;first|(apply x1;apply r0;apply r0)|(apply xbd;apply r0)|apply w4|(apply w3;apply r0;apply r0))|(apply gW;first|apply w6|apply w7|(apply w9;apply r0)|apply wa)|apply w5
    refine s_index tk rfl rfl rfl rfl (by omega) hgx rfl ?_
    repeat first|(apply x3;apply r0)|(apply x9;apply r0)
    refine join_c (by omega) (by omega) ?_
    repeat (apply x9;apply r0)
    refine ACalls.wk (llstat_c (c := rootC) hg rootC_small (by with_reducible repeat first|assumption|apply q3) ?_) (wkTri (wk_agg rfl))
    rw [hR]
    repeat (apply x1;apply r0;apply r0)
    refine s_alloc tk rfl rfl rfl (fun b19 hb19 => ?_); have hb := hb19; (try simp only [put_none_iff, prot_none_iff] at hb); (repeat obtain ⟨_, _, hb⟩ := hb)
    repeat first|(apply gO;first|(apply x1;apply r0;apply r0)|(apply xst;apply r0;(apply ps);apply r0)|(apply x5;apply r0)|apply w4|(apply w3;apply r0;apply r0)|(apply x6;apply r0;omega))|(apply gW;first|apply w6|apply w7|(apply w9;apply r0)|apply wa)|apply w5|apply wg
    exact ⟨k + 1, by omega, by omega, (by repeat (first | exact Fr.sub_nil _ | refine Fr.sub_cons rfl ?_)), (by repeat first|exact s0|(apply su1;assumption))⟩
  · rw [if_neg (by rw [hcn]; decide)] at hL
    rw [hL]
    repeat first|(apply x1;apply r0;apply r0)|(apply x2;apply r0;(apply q0);apply r0)|(apply x5;apply r0)|apply w6|apply w7
    refine s_gsplit rfl rfl (fun v1 => ?_) (fun v1 => ?_)<;>first|replace v1:=of_decide_eq_true v1|replace v1:=of_decide_eq_false v1
    · exact absurd v1 hne
    repeat first|(apply x1;apply r0;apply r0)|(apply x2;apply r0;(apply q0);apply r0)|(apply x5;apply r0)|apply w4|apply w5
    refine aw_cond rfl (fun v2 => ?_) (fun v2 => ?_)<;>first|replace v2:=of_decide_eq_true v2|replace v2:=of_decide_eq_false v2
    · exact absurd v2 (by show ¬ T.links nd < 1; omega)
    repeat first|(apply x1;apply r0;apply r0)|(apply xbd;apply r0)|apply w6|apply w7|apply wa|apply w5
    refine s_index tk rfl rfl rfl rfl (by omega) hgx rfl ?_
    repeat first|(apply x3;apply r0)|(apply x9;apply r0)
    refine join_c (by omega) (by omega) ?_
    repeat (apply x9;apply r0)
    refine ACalls.wk (llstat_c (c := rootC) hg rootC_small (by with_reducible repeat first|assumption|apply q3) ?_) (wkTri (wk_agg rfl))
    rw [hR]
    repeat (apply x1;apply r0;apply r0)
    refine s_alloc tk rfl rfl rfl (fun b19 hb19 => ?_); have hb := hb19; (try simp only [put_none_iff, prot_none_iff] at hb); (repeat obtain ⟨_, _, hb⟩ := hb)
    repeat first|(apply gO;first|(apply x1;apply r0;apply r0)|(apply x2;apply r0;(with_reducible repeat first|assumption|apply q0|apply ps|apply q3);apply r0)|(apply xst;apply r0;(with_reducible repeat first|assumption|apply q0|apply ps|apply q3);apply r0)|(apply x5;apply r0)|apply w4)|(apply gW;first|apply w6|apply w7)|apply w5
    refine s_eqagg (r := true) tk rfl (.inr rfl) rfl rfl rfl (by kernel_rfl) (by exact congrArg some (statEq _)) ?_
    repeat first|(apply gO;first|(apply x1;apply r0;apply r0)|(apply x5;apply r0)|apply w4|(apply x6;apply r0;omega))|(apply gW;first|apply w7|(apply w9;apply r0)|apply wa)|apply w5|apply wg
    exact ⟨k + 1, by omega, by omega, (by repeat (first | exact Fr.sub_nil _ | refine Fr.sub_cons rfl ?_)), (by repeat first|exact s0|(apply su1;assumption))⟩
end Abs
end Go.Proofs.YtkopeigfjjbajaaGreat
