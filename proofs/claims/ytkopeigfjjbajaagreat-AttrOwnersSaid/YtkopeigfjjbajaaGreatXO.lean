import Derived.Test.YtkopeigfjjbajaaGreatXN
set_option linter.unusedVariables false
namespace Go.Proofs.YtkopeigfjjbajaaGreat
namespace Abs
theorem ok_upd {n : Node} (h : nodeOk n = true) {m u g : Int} (hm : 0 ≤ m ∧ m ≤ 4095) (hl : n.kind = 3 → m = 511) (hu : idOk u = true) (hgi : idOk g = true) : nodeOk { n with mode := m, uid := u, gid := g } = true := by
  unfold nodeOk at h ⊢
  simp only at h ⊢
  by_cases k1 : n.kind = 1
  · rw [if_pos k1] at h ⊢
    simp only [Bool.and_eq_true, decide_eq_true_eq] at h ⊢
    simp_all
  · rw [if_neg k1] at h ⊢
    by_cases k2 : n.kind = 2
    · rw [if_pos k2] at h ⊢
      simp only [Bool.and_eq_true, decide_eq_true_eq] at h ⊢
      simp_all
    · rw [if_neg k2] at h ⊢
      by_cases k3 : n.kind = 3
      · have hm5 := hl k3
        rw [if_pos k3] at h ⊢
        simp only [Bool.and_eq_true, decide_eq_true_eq] at h ⊢
        simp_all
      · rw [if_neg k3] at h; exact absurd h (by simp)
theorem dropB_all : ∀ a : Fin 64, ∀ b : Fin 64, (0 ≤ dropB ((64 * a.val + b.val : Nat) : Int) 1024 ∧ dropB ((64 * a.val + b.val : Nat) : Int) 1024 ≤ ((64 * a.val + b.val : Nat) : Int)) ∧ (0 ≤ dropB ((64 * a.val + b.val : Nat) : Int) 2048 ∧ dropB ((64 * a.val + b.val : Nat) : Int) 2048 ≤ ((64 * a.val + b.val : Nat) : Int)) := by decide +kernel
theorem dropB_rng {m : Int} (h : 0 ≤ m ∧ m ≤ 4095) : (0 ≤ dropB m 1024 ∧ dropB m 1024 ≤ m) ∧ (0 ≤ dropB m 2048 ∧ dropB m 2048 ≤ m) := by
  have := dropB_all ⟨m.toNat / 64, by omega⟩ ⟨m.toNat % 64, by omega⟩
  simp only at this
  rw [show ((64 * (m.toNat / 64) + m.toNat % 64 : Nat) : Int) = m by omega] at this
  exact this
theorem modeFor_rng (c : Cred) (kind gid mode : Int) : 0 ≤ c.modeFor kind gid mode ∧ c.modeFor kind gid mode ≤ 4095 := by
  have h : 0 ≤ mode % 4096 ∧ mode % 4096 ≤ 4095 := by omega
  have h2 := dropB_rng h
  unfold Cred.modeFor
  split <;> omega
theorem written_rng (c : Cred) (kind mode : Int) : 0 ≤ c.written kind mode ∧ c.written kind mode ≤ 4095 := by
  have h : 0 ≤ mode % 4096 ∧ mode % 4096 ≤ 4095 := by omega
  have h2 := dropB_rng h
  have h3 := dropB_rng (m := dropB (mode % 4096) 2048) (by omega)
  unfold Cred.written
  split
  · omega
  · split <;> omega
end Abs
end Go.Proofs.YtkopeigfjjbajaaGreat

set_option linter.unusedVariables false
namespace Go.Proofs.YtkopeigfjjbajaaGreat
namespace Abs
set_option linter.unusedSimpArgs false
set_option maxRecDepth 10000
set_option maxHeartbeats 2000000
attribute [local irreducible] AOps AW AP ACalls thenQ inBlk noGoto

/-! ### a node's mode is changed -/
def newMode (c : Cred) (n : Node) (mode : Int) : Node := { n with mode := c.modeFor n.kind n.gid mode }
theorem chm1_c {b bc bm : Nat} {n : Node} {c : Cred} {mode : Int} (hc : c.small) {H : AHeap} (h : H b = some (.cells (encNode n))) (h5 : Rd H bc (encCred c)) (h7 : Rd H bm [.i mode]) (e5 : bc ≠ b) (e7 : bm ≠ b) {K : AVal → AHeap → Prop}
    (hK1 : c.mayMode n.uid = true → K (.i 0) (H.put b (.cells (encNode (newMode c n mode))))) (hK0 : c.mayMode n.uid = false → K (.i 1) H) :
    ACalls Tryz.prog 61 [.ptr b 0, .ptr bc 0, .ptr bm 0] H K := by
  refine acalls_body Tryz.func61 rfl rfl rfl ?_
  repeat first|(apply x1;apply r0;apply r0)|apply w4|apply w6|apply w7|apply w5
  refine aw_prot [b, bc] (allc (by with_reducible repeat exact q1 ‹_›) (allc (by with_reducible assumption) (allc0 _))) ?_
  refine aw_plan mixed (.take 0 (.take 1 (.take 2 (.take 3 (.take 4 (.one 5 (.take 6 .done))))))) (by kernel_rfl) ?_
  repeat first|(apply x9;apply r0)|(apply y1;apply r0;apply r0)|(apply y4;apply r0)|(apply y2;apply r0;apply r0;(with_reducible repeat first|assumption|exact q1 ‹_›|apply pg|exact mm0|apply mm1);apply r0)
  refine mayMode_c ?_
  repeat first|apply w4|(apply y1;apply r0;apply r0)|apply y0
  refine prot_done ?_
  rcases hq : c.mayMode n.uid
  · repeat first|(apply gO;first|(apply x1;apply r0;apply r0)|apply w4)|(apply gW;first|apply w6|apply w7|(apply w8;apply r0)|apply wd)|apply w5|apply we
    exact rt1 (H' := H) rfl rfl (.refl _) s0 (hK0 hq)
  repeat first|apply w6|(apply w9;apply r0)|apply wa|apply w5
  have hpb : (H.prot [bc, bm]) b = some (.cells (encNode n)) := by rw [prot_other (by simp only [List.mem_cons, List.not_mem_nil, or_false, not_or]; exact ⟨Ne.symm e5, Ne.symm e7⟩)]; exact h
  have hpr : Rd (H.prot [bc, bm]) b (encNode n) := .inl hpb
  refine aw_prot [bc, bm] (allc (by with_reducible assumption) (allc (by with_reducible assumption) (allc0 _))) ?_
  refine aw_plan mixed (.take 0 (.take 1 (.take 2 (.take 3 (.take 4 (.take 6 (.take 7 (.take 8 (.take 10 (.two 5 9 (.one 9 (.one 11 (.take 12 (.take 13 (.one 14 .done))))) (.one 5 (.one 11 (.take 12 (.take 13 (.one 14 .done))))))))))))))) (by kernel_rfl) ?_
  repeat first|(apply y1;apply r0;apply r0)|(apply y2;apply r0;apply r0;(with_reducible repeat first|assumption|apply pg|exact mm0|apply mm1);apply r0)
  refine e_two rfl rfl ?_ ?_
  · repeat first|(apply x2;apply r0;(with_reducible assumption);apply r0)|(apply x9;apply r0)|apply w4|(apply y4;apply r0)
    refine mode_c hc ?_
    repeat first|(apply xst;apply r0;(with_reducible assumption);apply r0)|apply w4|(apply y1;apply r0;apply r0)|apply y0|(apply y4;apply r0)
    refine prot_done_put (by simp only [List.mem_cons, List.not_mem_nil, or_false, not_or]; exact ⟨Ne.symm e5, Ne.symm e7⟩) ?_
    repeat first|(apply x1;apply r0;apply r0)|apply w4|apply w6|apply w7|apply wd|apply w5
    exact rt1 (H' := H.put b (.cells (encNode (newMode c n mode)))) rfl rfl (.refl _) (AHeap.sub_refl _) (hK1 hq)
  · repeat first|(apply x2;apply r0;(with_reducible assumption);apply r0)|(apply x9;apply r0)|apply w4|(apply y4;apply r0)
    refine mode_c hc ?_
    repeat first|(apply xst;apply r0;(with_reducible assumption);apply r0)|apply w4|(apply y1;apply r0;apply r0)|apply y0|(apply y4;apply r0)
    refine prot_done_put (by simp only [List.mem_cons, List.not_mem_nil, or_false, not_or]; exact ⟨Ne.symm e5, Ne.symm e7⟩) ?_
    repeat first|(apply x1;apply r0;apply r0)|apply w4|apply w6|apply w7|apply wd|apply w5
    exact rt1 (H' := H.put b (.cells (encNode (newMode c n mode)))) rfl rfl (.refl _) (AHeap.sub_refl _) (hK1 hq)
def Tab.chm (T : Tab) (c : Cred) (path : ByteArray) (mode : Int) : Int × Tab :=
  if ¬ (T.resolve c path true).2 = 0 then ((T.resolve c path true).2, T)
  else if T.has (T.resolve c path true).1.node = false then (2, T)
  else if c.mayMode (T.at (T.resolve c path true).1.node).uid = false then (1, T)
  else (0, T.put ((T.resolve c path true).1.node - 1).toNat (newMode c (T.at (T.resolve c path true).1.node) mode))
theorem found_nolink {T : Tab} (hg : T.good) (ht : T.tree) {c : Cred} {path : ByteArray} (h : (T.resolve c path true).2 = 0) : ¬ (T.at (T.resolve c path true).1.node).kind = 3 := by
  rcases resolve_srch hg ht c path true with ⟨h1, _⟩ | ⟨_, h2, _, h3⟩
  · exact absurd h h1
  · rcases h3 with ⟨_, h4⟩ | ⟨_, _, _, h5⟩
    · rw [← h4, h2]; decide
    · exact fun e => h5 ⟨rfl, e⟩
theorem has_ok {T : Tab} (hg : T.good) {i : Int} (h : T.has i = true) : nodeOk (T.at i) = true := by
  rcases at_zero_ok hg i with z | z
  · have := has_kind'.1 h; rw [z] at this; exact absurd rfl this
  · exact z
theorem ok_ids {n : Node} (h : nodeOk n = true) : idOk n.uid = true ∧ idOk n.gid = true ∧ (0 ≤ n.mode ∧ n.mode ≤ 4095) := by
  unfold nodeOk at h
  simp only [Bool.and_eq_true, decide_eq_true_eq] at h
  exact ⟨h.1.1.2, h.1.2, h.1.1.1⟩
theorem newMode_ok {T : Tab} (hg : T.good) {i : Int} (h : T.has i = true) (hk : ¬ (T.at i).kind = 3) (c : Cred) (mode : Int) : nodeOk (newMode c (T.at i) mode) = true := by
  have ho := has_ok hg h
  obtain ⟨h1, h2, h3⟩ := ok_ids ho
  exact ok_upd ho (modeFor_rng c _ _ mode) (fun e => absurd e hk) h1 h2
theorem change1_c {t bc bm : Nat} {T : Tab} (hg : T.good) (htr : T.tree) {c : Cred} (hc : c.small) {path : ByteArray} {mode : Int} {H : AHeap} (hT : H t = some (.cells (encTab T))) (h5 : Rd H bc (encCred c)) (h7 : Rd H bm [.i mode]) (e5 : bc ≠ t) (e7 : bm ≠ t) {K : AVal → AHeap → Prop}
    (hK : K (.i (T.chm c path mode).1) (H.put t (.cells (encTab (T.chm c path mode).2)))) : ACalls Tryz.prog 60 [.ptr t 0, .agg (encCred c), .s path, .b true, .clo 61 [] [.ptr bc 0, .ptr bm 0]] H K := by
  refine acalls_body Tryz.func60 rfl rfl rfl ?_
  have hnl := found_nolink hg htr (c := c) (path := path)
  unfold Tab.chm at hK
  repeat first|apply w6|apply w7
  refine s_box rfl rfl rfl (fun b6 hb6 => ?_); have hb := hb6; (try simp only [put_none_iff, prot_none_iff] at hb); (repeat obtain ⟨_, _, hb⟩ := hb)
  repeat first|(apply x1;apply r0;apply r0)|(apply x2;apply r0;(apply q0);apply r0)|(apply x9;apply r0)|apply w4|apply w6|apply w7|apply w5
  refine resolve_c hg hc (by with_reducible repeat first|exact q1 ‹_›|apply q3|exact n2 ‹_› ‹_›) ?_
  generalize T.resolve c path true = va at hK hnl ⊢
  repeat (apply x1;apply r0;apply r0)
  refine s_alloc tk rfl rfl rfl (fun b11 hb11 => ?_); have hb := hb11; (try simp only [put_none_iff, prot_none_iff] at hb); (repeat obtain ⟨_, _, hb⟩ := hb)
  repeat first|(apply x1;apply r0;apply r0)|(apply xst;apply r0;(apply ps);apply r0)|apply w4|apply w6|apply w7|apply w5
  refine aw_cond rfl (fun g1 => ?_) (fun g1 => ?_)<;>first|replace g1:=not_t g1|replace g1:=not_f g1
  · rw [if_pos g1, put_id hT] at hK
    repeat first|(apply x1;apply r0;apply r0)|apply w4|apply w6|apply w7|apply wd|apply w5|apply we
    exact rt1 (H' := H) rfl rfl (.refl _) (by repeat first|exact s0|(apply su1;assumption)) hK
  have g1' : va.2 = 0 := g1
  rw [if_neg (fun q => q g1')] at hK
  repeat first|(apply x1;apply r0;apply r0)|(apply x2;apply r0;(apply q0);apply r0)|(apply x9;apply r0)|apply w6|apply w7|apply wa|apply w5
  refine tget_c hg.wf (by with_reducible repeat first|exact q1 ‹_›|apply q3|exact n2 ‹_› ‹_›) ?_
  rcases hh : T.has va.1.node
  · rw [if_pos hh, put_id hT] at hK
    repeat (apply x1;apply r0;apply r0)
    refine s_alloc tk rfl rfl rfl (fun b13 hb13 => ?_); have hb := hb13; (try simp only [put_none_iff, prot_none_iff] at hb); (repeat obtain ⟨_, _, hb⟩ := hb)
    repeat first|(apply gO;first|(apply x1;apply r0;apply r0)|(apply xst;apply r0;(apply ps);apply r0)|apply w4)|(apply gW;first|apply w6|apply w7|(apply w8;apply r0)|apply wd)|apply w5|apply we
    exact rt1 (H' := H) rfl rfl (.refl _) (by repeat first|exact s0|(apply su1;assumption)) hK
  rw [if_neg (by rw [hh]; decide)] at hK
  repeat (apply x1;apply r0;apply r0)
  refine s_alloc tk rfl rfl rfl (fun b13 hb13 => ?_); have hb := hb13; (try simp only [put_none_iff, prot_none_iff] at hb); (repeat obtain ⟨_, _, hb⟩ := hb)
  repeat first|(apply gO;first|(apply x1;apply r0;apply r0)|(apply xst;apply r0;(apply ps);apply r0)|apply w4)|(apply gW;first|apply w6|apply w7|(apply w9;apply r0)|apply wa)|apply w5
  refine s_clo rfl rfl rfl (fkall rfl) ?_
  refine chm1_c (n := T.at va.1.node) hc (by apply get_eq;(focus apply ps);rfl) (by with_reducible repeat first|assumption|apply q3|exact n1 ‹_› ‹_›) (by with_reducible repeat first|assumption|apply q3|exact n1 ‹_› ‹_›) (rd_ne h5 (by assumption)) (rd_ne h7 (by assumption)) (fun hq => ?_) (fun hq => ?_)
  · rw [if_neg (by rw [hq]; decide)] at hK
    have hok := newMode_ok hg hh (hnl g1') c mode
    repeat first|(apply gO;first|(apply x1;apply r0;apply r0)|(apply x2;apply r0;(with_reducible repeat first|assumption|apply q0|apply q3);apply r0)|(apply x9;apply r0)|apply w4)|(apply gW;first|apply w6|apply w7|(apply w9;apply r0)|apply wa)|apply w5
    refine put_c hg.wf (n := newMode c (T.at va.1.node) mode) (ok_few hok).small (by with_reducible repeat first|assumption|apply gp|exact n2 ‹_› ‹_›) ?_
    rw [if_pos hh, if_pos hok]
    repeat first|(apply x1;apply r0;apply r0)|apply w4|apply wd|apply w5
    exact rt1 (H' := H.put t (.cells (encTab (T.put (va.1.node - 1).toNat (newMode c (T.at va.1.node) mode))))) rfl rfl (.refl _) (by repeat first|exact s1|(apply su2;assumption)|apply put_sub') hK
  · rw [if_pos hq, put_id hT] at hK
    repeat first|(apply gO;first|(apply x1;apply r0;apply r0)|apply w4)|(apply gW;first|apply w6|apply w7|(apply w8;apply r0)|apply wd)|apply w5|apply we
    exact rt1 (H' := H) rfl rfl (.refl _) (by repeat first|exact s0|(apply su1;assumption)) hK
def Tab.chmod (T : Tab) (c : Cred) (path : ByteArray) (mode : Int) : Int × Tab := if mode < 0 ∨ 4095 < mode then (22, T) else T.chm c path mode
theorem chmod_c {t : Nat} {T : Tab} (hg : T.good) (htr : T.tree) {c : Cred} (hc : c.small) {path : ByteArray} {mode : Int} {H : AHeap} (hT : H t = some (.cells (encTab T))) {K : AVal → AHeap → Prop}
    (hK : K (.i (T.chmod c path mode).1) (H.put t (.cells (encTab (T.chmod c path mode).2)))) : ACalls Tryz.prog 34 [.ptr t 0, .agg (encCred c), .s path, .i mode] H K := by
  refine acalls_body Tryz.func34 rfl rfl rfl ?_
  unfold Tab.chmod at hK
  repeat first|apply w6|apply w7
  refine s_box rfl rfl rfl (fun b5 hb5 => ?_); have hb := hb5; (try simp only [put_none_iff, prot_none_iff] at hb); (repeat obtain ⟨_, _, hb⟩ := hb)
  skip
  refine s_box rfl rfl rfl (fun b7 hb7 => ?_); have hb := hb7; (try simp only [put_none_iff, prot_none_iff] at hb); (repeat obtain ⟨_, _, hb⟩ := hb)
  repeat first|(apply x1;apply r0;apply r0)|(apply x2;apply r0;(apply q0);apply r0)|apply w4|apply w6|apply w7|apply w5
  refine s_gsplit rfl rfl (fun g1 => ?_) (fun g1 => ?_)<;>first|replace g1:=of_decide_eq_true g1|replace g1:=of_decide_eq_false g1
  · rw [if_pos (.inl g1), put_id hT] at hK
    repeat first|(apply gO;first|(apply x1;apply r0;apply r0)|apply w4|(apply w3;apply r0;apply r0))|(apply gW;first|apply w6|apply w7|(apply w8;apply r0)|apply wd)|apply w5|apply we
    exact rt1 (H' := H) rfl rfl (.refl _) (by repeat first|exact s0|(apply su1;assumption)) hK
  repeat first|(apply x1;apply r0;apply r0)|(apply x2;apply r0;(apply q0);apply r0)|(apply x5;apply r0)|apply w4|apply w5
  refine aw_cond rfl (fun g2 => ?_) (fun g2 => ?_)<;>first|replace g2:=of_decide_eq_true g2|replace g2:=of_decide_eq_false g2
  · rw [if_pos (.inr g2), put_id hT] at hK
    repeat first|(apply x1;apply r0;apply r0)|apply w4|apply w6|apply w7|apply wd|apply w5|apply we
    exact rt1 (H' := H) rfl rfl (.refl _) (by repeat first|exact s0|(apply su1;assumption)) hK
  rw [if_neg (by omega)] at hK
  repeat first|(apply x1;apply r0;apply r0)|(apply x2;apply r0;(with_reducible repeat first|assumption|apply q0|apply q3);apply r0)|(apply x9;apply r0)|apply w6|apply w7|apply wa|apply w5
  refine change1_c hg htr hc (by with_reducible repeat first|assumption|apply gp|exact n2 ‹_› ‹_›) (by with_reducible repeat first|assumption|apply q0|apply q3) (by apply q0) (Ne.symm (get_ne hT (by assumption))) (Ne.symm (get_ne hT (by assumption))) ?_
  repeat first|(apply x1;apply r0;apply r0)|apply w4|apply wd|apply w5
  exact rt1 (H' := H.put t (.cells (encTab (T.chm c path mode).2))) rfl rfl (.refl _) (by repeat first|exact s1|(apply su2;assumption)|apply put_sub') hK
end Abs
end Go.Proofs.YtkopeigfjjbajaaGreat
