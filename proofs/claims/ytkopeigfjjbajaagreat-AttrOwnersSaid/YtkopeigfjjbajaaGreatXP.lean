import Derived.Test.YtkopeigfjjbajaaGreatXO
set_option linter.unusedVariables false
namespace Go.Proofs.YtkopeigfjjbajaaGreat
namespace Abs
set_option linter.unusedSimpArgs false
set_option maxRecDepth 10000
set_option maxHeartbeats 2000000
attribute [local irreducible] AOps AW AP ACalls thenQ inBlk noGoto

/-! ### a node's owner is changed -/
def newOwn (c : Cred) (n : Node) (uid gid : Int) : Node := { n with uid := if 0 ≤ uid then uid else n.uid, gid := if 0 ≤ gid then gid else n.gid, mode := c.written n.kind n.mode }
theorem chw1_c {b bc bu bg : Nat} {n : Node} {c : Cred} {uid gid : Int} (hc : c.small) {H : AHeap} (h : H b = some (.cells (encNode n))) (h5 : Rd H bc (encCred c)) (h7 : Rd H bu [.i uid]) (h9 : Rd H bg [.i gid]) (e5 : bc ≠ b) (e7 : bu ≠ b) (e9 : bg ≠ b) {K : AVal → AHeap → Prop}
    (hK1 : c.mayOwn n.uid n.gid uid gid = true → ¬ (uid < 0 ∧ gid < 0) → K (.i 0) (H.put b (.cells (encNode (newOwn c n uid gid))))) (hK2 : c.mayOwn n.uid n.gid uid gid = true → uid < 0 ∧ gid < 0 → K (.i 0) H) (hK0 : c.mayOwn n.uid n.gid uid gid = false → K (.i 1) H) :
    ACalls Tryz.prog 67 [.ptr b 0, .ptr bc 0, .ptr bu 0, .ptr bg 0] H K := by
  refine acalls_body Tryz.func67 rfl rfl rfl ?_
  have f5 : ∀ o, Rd (H.put b o) bc (encCred c) := fun o => by unfold Rd; rw [put_ne e5]; exact h5
  have f7 : ∀ o, Rd (H.put b o) bu [.i uid] := fun o => by unfold Rd; rw [put_ne e7]; exact h7
  have f9 : ∀ o, Rd (H.put b o) bg [.i gid] := fun o => by unfold Rd; rw [put_ne e9]; exact h9
  repeat first|(apply x1;apply r0;apply r0)|apply w4|apply w6|apply w7|apply w5
  refine aw_prot [b, bc, bu, bg] (allc (by with_reducible repeat exact q1 ‹_›) (allc (by with_reducible assumption) (allc (by with_reducible assumption) (allc (by with_reducible assumption) (allc0 _))))) ?_
  refine aw_plan mixed (.take 0 (.take 1 (.take 2 (.take 3 (.take 4 (.take 5 (.take 6 (.take 7 (.take 8 (.take 9 (.take 10 (.one 11 (.take 12 .done))))))))))))) (by kernel_rfl) ?_
  repeat first|(apply x9;apply r0)|(apply y1;apply r0;apply r0)|(apply y4;apply r0)|(apply y2;apply r0;apply r0;(with_reducible repeat first|assumption|exact q1 ‹_›|apply pg|exact mm0|apply mm1);apply r0)
  refine mayOwn_c hc ?_
  repeat first|apply w4|(apply y1;apply r0;apply r0)|apply y0
  refine prot_done ?_
  rcases hq : c.mayOwn n.uid n.gid uid gid
  · repeat first|(apply gO;first|(apply x1;apply r0;apply r0)|apply w4)|(apply gW;first|apply w6|apply w7|(apply w8;apply r0)|apply wd)|apply w5|apply we
    exact rt1 (H' := H) rfl rfl (.refl _) s0 (hK0 hq)
  repeat first|(apply x1;apply r0;apply r0)|(apply x2;apply r0;(with_reducible assumption);apply r0)|apply w6|apply w7|(apply w9;apply r0)|apply wa|apply w5
  by_cases hn : uid < 0 ∧ gid < 0
  · refine s_gsplit rfl rfl (fun g1 => ?_) (fun g1 => ?_)<;>first|replace g1:=of_decide_eq_true g1|replace g1:=of_decide_eq_false g1
    case refine_2 => exact absurd hn.1 g1
    repeat first|(apply x1;apply r0;apply r0)|(apply x2;apply r0;(with_reducible assumption);apply r0)|(apply x5;apply r0)|apply w4|apply w5
    refine aw_cond rfl (fun g2 => ?_) (fun g2 => ?_)<;>first|replace g2:=of_decide_eq_true g2|replace g2:=of_decide_eq_false g2
    case refine_2 => exact absurd hn.2 g2
    repeat first|(apply x1;apply r0;apply r0)|apply w4|apply w6|apply w7|apply wd|apply w5|apply we
    exact rt1 (H' := H) rfl rfl (.refl _) s0 (hK2 hq hn)
  by_cases u0 : uid < 0
  · have g0 : ¬ gid < 0 := fun e => hn ⟨u0, e⟩
    have u1 : (if 0 ≤ uid then uid else n.uid) = n.uid := if_neg (by omega)
    have u2 : (if 0 ≤ gid then gid else n.gid) = gid := if_pos (by omega)
    refine s_gsplit rfl rfl (fun g1 => ?_) (fun g1 => ?_)<;>first|replace g1:=of_decide_eq_true g1|replace g1:=of_decide_eq_false g1
    case refine_2 => exact absurd u0 g1
    repeat first|(apply x1;apply r0;apply r0)|(apply x2;apply r0;(with_reducible assumption);apply r0)|(apply x5;apply r0)|apply w4|apply w5
    refine aw_cond rfl (fun g2 => ?_) (fun g2 => ?_)<;>first|replace g2:=of_decide_eq_true g2|replace g2:=of_decide_eq_false g2
    · exact absurd g2 g0
    repeat first|(apply x1;apply r0;apply r0)|(apply x2;apply r0;(with_reducible assumption);apply r0)|apply w4|apply w6|apply w7|apply wa|apply w5
    refine aw_cond rfl (fun g3 => ?_) (fun g3 => ?_)<;>first|replace g3:=of_decide_eq_true g3|replace g3:=of_decide_eq_false g3
    · exact absurd g3 (by omega)
    repeat first|(apply x1;apply r0;apply r0)|(apply x2;apply r0;(with_reducible assumption);apply r0)|apply w4|apply w6|apply w7|apply wa|apply w5
    refine aw_cond rfl (fun g4 => ?_) (fun g4 => ?_)<;>first|replace g4:=of_decide_eq_true g4|replace g4:=of_decide_eq_false g4
    case refine_2 => exact absurd g4 (by omega)
    repeat first|(apply x1;apply r0;apply r0)|(apply x2;apply r0;(with_reducible assumption);apply r0)|(apply xst;apply r0;(with_reducible assumption);apply r0)|apply w4|apply w6|apply w7|apply w5
    refine (show AW _ _ _ _ (AHeap.put H b (.cells (encNode { n with gid := gid }))) _ from ?_)
    have hpb : (AHeap.prot (H.put b (.cells (encNode { n with gid := gid }))) [bc]) b = some (.cells (encNode { n with gid := gid })) := by rw [prot_other (by simp only [List.mem_cons, List.not_mem_nil, or_false, not_or]; exact Ne.symm e5)]; exact put_same _ _ _
    have hpr : Rd (AHeap.prot (H.put b (.cells (encNode { n with gid := gid }))) [bc]) b (encNode { n with gid := gid }) := .inl hpb
    refine aw_prot [bc] (allc (by with_reducible repeat first|assumption|apply q3) (allc0 _)) ?_
    refine aw_plan mixed (.take 0 (.take 1 (.take 2 (.take 3 (.take 4 (.take 6 (.take 7 (.take 8 (.two 5 9 (.one 9 (.one 10 (.take 11 (.take 12 (.one 13 .done))))) (.one 5 (.one 10 (.take 11 (.take 12 (.one 13 .done)))))))))))))) (by kernel_rfl) ?_
    repeat first|(apply y1;apply r0;apply r0)|(apply y2;apply r0;apply r0;(with_reducible repeat first|assumption|apply pg|apply q3|exact mm0);apply r0)
    refine e_two rfl rfl ?_ ?_
    · repeat first|(apply x2;apply r0;(with_reducible assumption);apply r0)|(apply x9;apply r0)|apply w4|(apply y4;apply r0)
      refine written_c hc ?_
      repeat first|(apply xst;apply r0;(with_reducible assumption);apply r0)|apply w4|(apply y1;apply r0;apply r0)|apply y0|(apply y4;apply r0)
      refine prot_done_put (by simp only [List.mem_cons, List.not_mem_nil, or_false, not_or]; exact Ne.symm e5) ?_
      repeat first|(apply x1;apply r0;apply r0)|apply w4|apply w6|apply w7|apply wd|apply w5
      refine rt1 (H' := H.put b (.cells (encNode (newOwn c n uid gid)))) rfl rfl (.refl _) ?_ (hK1 hq hn)
      unfold newOwn
      rw [u1, u2, put_put]
      exact AHeap.sub_refl _
    · repeat first|(apply x2;apply r0;(with_reducible assumption);apply r0)|(apply x9;apply r0)|apply w4|(apply y4;apply r0)
      refine written_c hc ?_
      repeat first|(apply xst;apply r0;(with_reducible assumption);apply r0)|apply w4|(apply y1;apply r0;apply r0)|apply y0|(apply y4;apply r0)
      refine prot_done_put (by simp only [List.mem_cons, List.not_mem_nil, or_false, not_or]; exact Ne.symm e5) ?_
      repeat first|(apply x1;apply r0;apply r0)|apply w4|apply w6|apply w7|apply wd|apply w5
      refine rt1 (H' := H.put b (.cells (encNode (newOwn c n uid gid)))) rfl rfl (.refl _) ?_ (hK1 hq hn)
      unfold newOwn
      rw [u1, u2, put_put]
      exact AHeap.sub_refl _
  · have u1 : (if 0 ≤ uid then uid else n.uid) = uid := if_pos (by omega)
    refine s_gsplit rfl rfl (fun g1 => ?_) (fun g1 => ?_)<;>first|replace g1:=of_decide_eq_true g1|replace g1:=of_decide_eq_false g1
    · exact absurd g1 u0
    repeat first|(apply gO;first|(apply x1;apply r0;apply r0)|(apply x2;apply r0;(with_reducible assumption);apply r0)|apply w4|(apply w3;apply r0;apply r0))|(apply gW;first|apply w6|apply w7|(apply w9;apply r0)|apply wa)|apply w5
    refine aw_cond rfl (fun g3 => ?_) (fun g3 => ?_)<;>first|replace g3:=of_decide_eq_true g3|replace g3:=of_decide_eq_false g3
    case refine_2 => exact absurd g3 (by omega)
    repeat first|(apply x1;apply r0;apply r0)|(apply x2;apply r0;(with_reducible repeat first|assumption|apply q3);apply r0)|(apply xst;apply r0;(with_reducible repeat first|assumption|apply q3);apply r0)|apply w4|apply w6|apply w7|apply w5
    refine aw_cond rfl (fun g4 => ?_) (fun g4 => ?_)<;>first|replace g4:=of_decide_eq_true g4|replace g4:=of_decide_eq_false g4
    · have u2 : (if 0 ≤ gid then gid else n.gid) = gid := if_pos (by omega)
      repeat first|(apply x1;apply r0;apply r0)|(apply x2;apply r0;(with_reducible repeat first|assumption|apply ps|apply q3);apply r0)|(apply xst;apply r0;(with_reducible repeat first|assumption|apply ps|apply q3);apply r0)|apply w4|apply w6|apply w7|apply w5
      rw [put_put]
      refine (show AW _ _ _ _ (AHeap.put H b (.cells (encNode { n with uid := uid, gid := gid }))) _ from ?_)
      have hpb : (AHeap.prot (H.put b (.cells (encNode { n with uid := uid, gid := gid }))) [bc]) b = some (.cells (encNode { n with uid := uid, gid := gid })) := by rw [prot_other (by simp only [List.mem_cons, List.not_mem_nil, or_false, not_or]; exact Ne.symm e5)]; exact put_same _ _ _
      have hpr : Rd (AHeap.prot (H.put b (.cells (encNode { n with uid := uid, gid := gid }))) [bc]) b (encNode { n with uid := uid, gid := gid }) := .inl hpb
      refine aw_prot [bc] (allc (by with_reducible repeat first|assumption|apply q3) (allc0 _)) ?_
      refine aw_plan mixed (.take 0 (.take 1 (.take 2 (.take 3 (.take 4 (.take 6 (.take 7 (.take 8 (.two 5 9 (.one 9 (.one 10 (.take 11 (.take 12 (.one 13 .done))))) (.one 5 (.one 10 (.take 11 (.take 12 (.one 13 .done)))))))))))))) (by kernel_rfl) ?_
      repeat first|(apply y1;apply r0;apply r0)|(apply y2;apply r0;apply r0;(with_reducible repeat first|assumption|apply pg|apply q3|exact mm0);apply r0)
      refine e_two rfl rfl ?_ ?_
      · repeat first|(apply x2;apply r0;(with_reducible assumption);apply r0)|(apply x9;apply r0)|apply w4|(apply y4;apply r0)
        refine written_c hc ?_
        repeat first|(apply xst;apply r0;(with_reducible assumption);apply r0)|apply w4|(apply y1;apply r0;apply r0)|apply y0|(apply y4;apply r0)
        refine prot_done_put (by simp only [List.mem_cons, List.not_mem_nil, or_false, not_or]; exact Ne.symm e5) ?_
        repeat first|(apply x1;apply r0;apply r0)|apply w4|apply w6|apply w7|apply wd|apply w5
        refine rt1 (H' := H.put b (.cells (encNode (newOwn c n uid gid)))) rfl rfl (.refl _) ?_ (hK1 hq hn)
        unfold newOwn
        rw [u1, u2, put_put]
        exact AHeap.sub_refl _
      · repeat first|(apply x2;apply r0;(with_reducible assumption);apply r0)|(apply x9;apply r0)|apply w4|(apply y4;apply r0)
        refine written_c hc ?_
        repeat first|(apply xst;apply r0;(with_reducible assumption);apply r0)|apply w4|(apply y1;apply r0;apply r0)|apply y0|(apply y4;apply r0)
        refine prot_done_put (by simp only [List.mem_cons, List.not_mem_nil, or_false, not_or]; exact Ne.symm e5) ?_
        repeat first|(apply x1;apply r0;apply r0)|apply w4|apply w6|apply w7|apply wd|apply w5
        refine rt1 (H' := H.put b (.cells (encNode (newOwn c n uid gid)))) rfl rfl (.refl _) ?_ (hK1 hq hn)
        unfold newOwn
        rw [u1, u2, put_put]
        exact AHeap.sub_refl _
    · have u2 : (if 0 ≤ gid then gid else n.gid) = n.gid := if_neg (by omega)
      repeat first|apply w6|apply wa|apply w5
      refine (show AW _ _ _ _ (AHeap.put H b (.cells (encNode { n with uid := uid }))) _ from ?_)
      have hpb : (AHeap.prot (H.put b (.cells (encNode { n with uid := uid }))) [bc]) b = some (.cells (encNode { n with uid := uid })) := by rw [prot_other (by simp only [List.mem_cons, List.not_mem_nil, or_false, not_or]; exact Ne.symm e5)]; exact put_same _ _ _
      have hpr : Rd (AHeap.prot (H.put b (.cells (encNode { n with uid := uid }))) [bc]) b (encNode { n with uid := uid }) := .inl hpb
      refine aw_prot [bc] (allc (by with_reducible repeat first|assumption|apply q3) (allc0 _)) ?_
      refine aw_plan mixed (.take 0 (.take 1 (.take 2 (.take 3 (.take 4 (.take 6 (.take 7 (.take 8 (.two 5 9 (.one 9 (.one 10 (.take 11 (.take 12 (.one 13 .done))))) (.one 5 (.one 10 (.take 11 (.take 12 (.one 13 .done)))))))))))))) (by kernel_rfl) ?_
      repeat first|(apply y1;apply r0;apply r0)|(apply y2;apply r0;apply r0;(with_reducible repeat first|assumption|apply pg|apply q3|exact mm0);apply r0)
      refine e_two rfl rfl ?_ ?_
      · repeat first|(apply x2;apply r0;(with_reducible assumption);apply r0)|(apply x9;apply r0)|apply w4|(apply y4;apply r0)
        refine written_c hc ?_
        repeat first|(apply xst;apply r0;(with_reducible assumption);apply r0)|apply w4|(apply y1;apply r0;apply r0)|apply y0|(apply y4;apply r0)
        refine prot_done_put (by simp only [List.mem_cons, List.not_mem_nil, or_false, not_or]; exact Ne.symm e5) ?_
        repeat first|(apply x1;apply r0;apply r0)|apply w4|apply w6|apply w7|apply wd|apply w5
        refine rt1 (H' := H.put b (.cells (encNode (newOwn c n uid gid)))) rfl rfl (.refl _) ?_ (hK1 hq hn)
        unfold newOwn
        rw [u1, u2, put_put]
        exact AHeap.sub_refl _
      · repeat first|(apply x2;apply r0;(with_reducible assumption);apply r0)|(apply x9;apply r0)|apply w4|(apply y4;apply r0)
        refine written_c hc ?_
        repeat first|(apply xst;apply r0;(with_reducible assumption);apply r0)|apply w4|(apply y1;apply r0;apply r0)|apply y0|(apply y4;apply r0)
        refine prot_done_put (by simp only [List.mem_cons, List.not_mem_nil, or_false, not_or]; exact Ne.symm e5) ?_
        repeat first|(apply x1;apply r0;apply r0)|apply w4|apply w6|apply w7|apply wd|apply w5
        refine rt1 (H' := H.put b (.cells (encNode (newOwn c n uid gid)))) rfl rfl (.refl _) ?_ (hK1 hq hn)
        unfold newOwn
        rw [u1, u2, put_put]
        exact AHeap.sub_refl _
def Tab.cho (T : Tab) (c : Cred) (path : ByteArray) (uid gid : Int) (fo : Bool) : Int × Tab :=
  if ¬ (T.resolve c path fo).2 = 0 then ((T.resolve c path fo).2, T)
  else if T.has (T.resolve c path fo).1.node = false then (2, T)
  else if c.mayOwn (T.at (T.resolve c path fo).1.node).uid (T.at (T.resolve c path fo).1.node).gid uid gid = false then (1, T)
  else if uid < 0 ∧ gid < 0 then (0, T)
  else (0, T.put ((T.resolve c path fo).1.node - 1).toNat (newOwn c (T.at (T.resolve c path fo).1.node) uid gid))
theorem link_mode {n : Node} (h : nodeOk n = true) (hk : n.kind = 3) : n.mode = 511 := by
  unfold nodeOk at h
  rw [if_neg (by omega), if_neg (by omega), if_pos hk] at h
  simp only [Bool.and_eq_true, decide_eq_true_eq] at h
  exact h.2.1.2
theorem newOwn_ok {T : Tab} (hg : T.good) {i : Int} (h : T.has i = true) (c : Cred) {uid gid : Int} (hu : uid ≤ 65535) (hgi : gid ≤ 65535) : nodeOk (newOwn c (T.at i) uid gid) = true := by
  have ho := has_ok hg h
  obtain ⟨h1, h2, h3⟩ := ok_ids ho
  refine ok_upd ho (written_rng c _ _) (fun e => ?_) ?_ ?_
  · have hm := link_mode ho e
    unfold Cred.written
    rw [e, hm, if_pos (by simp)]
    decide
  · split
    · unfold idOk; simp only [Bool.and_eq_true, decide_eq_true_eq]; omega
    · exact h1
  · split
    · unfold idOk; simp only [Bool.and_eq_true, decide_eq_true_eq]; omega
    · exact h2
theorem put_same_node {T : Tab} (hg : T.good) {i : Int} (h : T.has i = true) : T.put (i - 1).toNat (T.at i) = T := by
  have hr := has_rng h
  have hlen := hg.wf.1
  have h24 := hg.wf.2.1
  have hk : (i - 1).toNat < T.nodes.length := by omega
  rw [at_has h]
  unfold Tab.put Tab.get
  rw [List.getD_eq_getElem?_getD, List.getElem?_eq_getElem hk, Option.getD_some, List.set_getElem_self]
theorem change2_c {t bc bu bg : Nat} {T : Tab} (hg : T.good) {c : Cred} (hc : c.small) {path : ByteArray} {uid gid : Int} {fo : Bool} (hu : uid ≤ 65535) (hgi : gid ≤ 65535) {H : AHeap} (hT : H t = some (.cells (encTab T))) (h5 : Rd H bc (encCred c)) (h7 : Rd H bu [.i uid]) (h9 : Rd H bg [.i gid]) {K : AVal → AHeap → Prop}
    (hK : K (.i (T.cho c path uid gid fo).1) (H.put t (.cells (encTab (T.cho c path uid gid fo).2)))) : ACalls Tryz.prog 60 [.ptr t 0, .agg (encCred c), .s path, .b fo, .clo 67 [] [.ptr bc 0, .ptr bu 0, .ptr bg 0]] H K := by
  refine acalls_body Tryz.func60 rfl rfl rfl ?_
  unfold Tab.cho at hK
  repeat first|apply w6|apply w7
  refine s_box rfl rfl rfl (fun b6 hb6 => ?_); have hb := hb6; (try simp only [put_none_iff, prot_none_iff] at hb); (repeat obtain ⟨_, _, hb⟩ := hb)
  repeat first|(apply x1;apply r0;apply r0)|(apply x2;apply r0;(apply q0);apply r0)|(apply x9;apply r0)|apply w4|apply w6|apply w7|apply w5
  refine resolve_c hg hc (by with_reducible repeat first|exact q1 ‹_›|apply q3|exact n2 ‹_› ‹_›) ?_
  generalize T.resolve c path fo = va at hK ⊢
  repeat (apply x1;apply r0;apply r0)
  refine s_alloc tk rfl rfl rfl (fun b11 hb11 => ?_); have hb := hb11; (try simp only [put_none_iff, prot_none_iff] at hb); (repeat obtain ⟨_, _, hb⟩ := hb)
  repeat first|(apply x1;apply r0;apply r0)|(apply xst;apply r0;(apply ps);apply r0)|apply w4|apply w6|apply w7|apply w5
  refine aw_cond rfl (fun g1 => ?_) (fun g1 => ?_)<;>first|replace g1:=not_t g1|replace g1:=not_f g1
  · rw [if_pos g1, put_id hT] at hK
    repeat first|(apply x1;apply r0;apply r0)|apply w4|apply w6|apply w7|apply wd|apply w5|apply we
    exact rt1 (H' := H) rfl rfl (.refl _) (by repeat first|exact s0|(apply su1;assumption)) hK
  have g1' : va.2 = 0 := g1
  rw [if_neg (fun q => q g1')] at hK
  repeat first|(apply x1;apply r0;apply r0)|(apply x2;apply r0;(apply q0);apply r0)|(apply x9;apply r0)|apply w6|apply w7|apply wa|apply w5
  refine tget_c hg.wf (by with_reducible repeat first|exact q1 ‹_›|apply q3|exact n2 ‹_› ‹_›) ?_
  rcases hh : T.has va.1.node
  · rw [if_pos hh, put_id hT] at hK
    repeat (apply x1;apply r0;apply r0)
    refine s_alloc tk rfl rfl rfl (fun b13 hb13 => ?_); have hb := hb13; (try simp only [put_none_iff, prot_none_iff] at hb); (repeat obtain ⟨_, _, hb⟩ := hb)
    repeat first|(apply gO;first|(apply x1;apply r0;apply r0)|(apply xst;apply r0;(apply ps);apply r0)|apply w4)|(apply gW;first|apply w6|apply w7|(apply w8;apply r0)|apply wd)|apply w5|apply we
    exact rt1 (H' := H) rfl rfl (.refl _) (by repeat first|exact s0|(apply su1;assumption)) hK
  rw [if_neg (by rw [hh]; decide)] at hK
  repeat (apply x1;apply r0;apply r0)
  refine s_alloc tk rfl rfl rfl (fun b13 hb13 => ?_); have hb := hb13; (try simp only [put_none_iff, prot_none_iff] at hb); (repeat obtain ⟨_, _, hb⟩ := hb)
  repeat first|(apply gO;first|(apply x1;apply r0;apply r0)|(apply xst;apply r0;(apply ps);apply r0)|apply w4)|(apply gW;first|apply w6|apply w7|(apply w9;apply r0)|apply wa)|apply w5
  refine s_clo rfl rfl rfl (fkall rfl) ?_
  refine chw1_c (n := T.at va.1.node) hc (by apply get_eq;(focus apply ps);rfl) (by with_reducible repeat first|assumption|apply q3|exact n1 ‹_› ‹_›) (by with_reducible repeat first|assumption|apply q3|exact n1 ‹_› ‹_›) (by with_reducible repeat first|assumption|apply q3|exact n1 ‹_› ‹_›) (rd_ne h5 (by assumption)) (rd_ne h7 (by assumption)) (rd_ne h9 (by assumption)) (fun hq hn => ?_) (fun hq hn => ?_) (fun hq => ?_)
  · rw [if_neg (by rw [hq]; decide), if_neg hn] at hK
    have hok := newOwn_ok hg hh c hu hgi
    repeat first|(apply gO;first|(apply x1;apply r0;apply r0)|(apply x2;apply r0;(with_reducible repeat first|assumption|apply q0|apply q3);apply r0)|(apply x9;apply r0)|apply w4)|(apply gW;first|apply w6|apply w7|(apply w9;apply r0)|apply wa)|apply w5
    refine put_c hg.wf (n := newOwn c (T.at va.1.node) uid gid) (ok_few hok).small (by with_reducible repeat first|assumption|apply gp|exact n2 ‹_› ‹_›) ?_
    rw [if_pos hh, if_pos hok]
    repeat first|(apply x1;apply r0;apply r0)|apply w4|apply wd|apply w5
    exact rt1 (H' := H.put t (.cells (encTab (T.put (va.1.node - 1).toNat (newOwn c (T.at va.1.node) uid gid))))) rfl rfl (.refl _) (by repeat first|exact s1|(apply su2;assumption)|apply put_sub') hK
  · rw [if_neg (by rw [hq]; decide), if_pos hn, put_id hT] at hK
    have hok := has_ok hg hh
    repeat first|(apply gO;first|(apply x1;apply r0;apply r0)|(apply x2;apply r0;(with_reducible repeat first|assumption|apply q0|apply q3);apply r0)|(apply x9;apply r0)|apply w4)|(apply gW;first|apply w6|apply w7|(apply w9;apply r0)|apply wa)|apply w5
    refine put_c hg.wf (n := T.at va.1.node) (ok_few hok).small (by with_reducible repeat first|assumption|apply gp|exact n2 ‹_› ‹_›) ?_
    rw [if_pos hh, if_pos hok, put_same_node hg hh]
    repeat first|(apply x1;apply r0;apply r0)|apply w4|apply wd|apply w5
    rw [← put_id hT] at hK
    exact rt1 (H' := H.put t (.cells (encTab T))) rfl rfl (.refl _) (by repeat first|exact s1|(apply su2;assumption)|apply put_sub') hK
  · rw [if_pos hq, put_id hT] at hK
    repeat first|(apply gO;first|(apply x1;apply r0;apply r0)|apply w4)|(apply gW;first|apply w6|apply w7|(apply w8;apply r0)|apply wd)|apply w5|apply we
    exact rt1 (H' := H) rfl rfl (.refl _) (by repeat first|exact s0|(apply su1;assumption)) hK
def Tab.chown (T : Tab) (c : Cred) (path : ByteArray) (uid gid : Int) (fo : Bool) : Int × Tab := if 65535 < uid ∨ 65535 < gid then (22, T) else T.cho c path uid gid fo
theorem chown_c {t : Nat} {T : Tab} (hg : T.good) {c : Cred} (hc : c.small) {path : ByteArray} {uid gid : Int} {fo : Bool} {H : AHeap} (hT : H t = some (.cells (encTab T))) {K : AVal → AHeap → Prop}
    (hK : K (.i (T.chown c path uid gid fo).1) (H.put t (.cells (encTab (T.chown c path uid gid fo).2)))) : ACalls Tryz.prog 37 [.ptr t 0, .agg (encCred c), .s path, .i uid, .i gid, .b fo] H K := by
  refine acalls_body Tryz.func37 rfl rfl rfl ?_
  unfold Tab.chown at hK
  repeat first|apply w6|apply w7
  refine s_box rfl rfl rfl (fun b7 hb7 => ?_); have hb := hb7; (try simp only [put_none_iff, prot_none_iff] at hb); (repeat obtain ⟨_, _, hb⟩ := hb)
  skip
  refine s_box rfl rfl rfl (fun b9 hb9 => ?_); have hb := hb9; (try simp only [put_none_iff, prot_none_iff] at hb); (repeat obtain ⟨_, _, hb⟩ := hb)
  skip
  refine s_box rfl rfl rfl (fun b10 hb10 => ?_); have hb := hb10; (try simp only [put_none_iff, prot_none_iff] at hb); (repeat obtain ⟨_, _, hb⟩ := hb)
  repeat first|(apply x1;apply r0;apply r0)|(apply x2;apply r0;(with_reducible repeat first|assumption|apply q0|apply q3);apply r0)|apply w4|apply w6|apply w7|apply w5
  refine s_gsplit rfl rfl (fun g1 => ?_) (fun g1 => ?_)<;>first|replace g1:=of_decide_eq_true g1|replace g1:=of_decide_eq_false g1
  · rw [if_pos (.inl g1), put_id hT] at hK
    repeat first|(apply gO;first|(apply x1;apply r0;apply r0)|apply w4|(apply w3;apply r0;apply r0))|(apply gW;first|apply w6|apply w7|(apply w8;apply r0)|apply wd)|apply w5|apply we
    exact rt1 (H' := H) rfl rfl (.refl _) (by repeat first|exact s0|(apply su1;assumption)) hK
  repeat first|(apply x1;apply r0;apply r0)|(apply x2;apply r0;(apply q0);apply r0)|(apply x5;apply r0)|apply w4|apply w5
  refine aw_cond rfl (fun g2 => ?_) (fun g2 => ?_)<;>first|replace g2:=of_decide_eq_true g2|replace g2:=of_decide_eq_false g2
  · rw [if_pos (.inr g2), put_id hT] at hK
    repeat first|(apply x1;apply r0;apply r0)|apply w4|apply w6|apply w7|apply wd|apply w5|apply we
    exact rt1 (H' := H) rfl rfl (.refl _) (by repeat first|exact s0|(apply su1;assumption)) hK
  rw [if_neg (by omega)] at hK
  repeat first|(apply x1;apply r0;apply r0)|(apply x2;apply r0;(with_reducible repeat first|assumption|apply q0|apply q3);apply r0)|(apply x9;apply r0)|apply w6|apply w7|apply wa|apply w5
  refine change2_c (bc := b7) (bu := b9) (bg := b10) (uid := uid) (gid := gid) hg hc (by omega) (by omega) (by with_reducible repeat first|assumption|apply gp|exact n2 ‹_› ‹_›) (by with_reducible repeat first|assumption|apply q0|apply q3) (by with_reducible repeat first|assumption|apply q0|apply q3) (by apply q0) ?_
  repeat first|(apply x1;apply r0;apply r0)|apply w4|apply wd|apply w5
  exact rt1 (H' := H.put t (.cells (encTab (T.cho c path uid gid fo).2))) rfl rfl (.refl _) (by repeat first|exact s1|(apply su2;assumption)|apply put_sub') hK
end Abs
end Go.Proofs.YtkopeigfjjbajaaGreat
