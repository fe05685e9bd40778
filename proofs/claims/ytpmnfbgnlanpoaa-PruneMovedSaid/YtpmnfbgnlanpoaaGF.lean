import Derived.Test.YtpmnfbgnlanpoaaGA
set_option linter.unusedVariables false
namespace Go.Proofs.Ytpmnfbgnlanpoaa
namespace Abs
/-! ### what prune does: plain part -/
def Cred.sticky (c : Cred) (mode dirUid uid : Int) : Bool := c.root || (decide (bitsR .and .i64 mode 512 = 0) || (decide (dirUid = c.uid) || decide (uid = c.uid)))
structure Place where
  f : Found
  d : Node
  n : Node
def encP (p : Place) : List AVal := [.i p.f.dir, .s p.f.name, .i p.f.node, .i p.d.kind, .i p.d.mode, .i p.d.uid, .i p.d.gid, .sl (encBytes p.d.data) .no, .sl (p.d.ents.map encEnt) .no, .s p.d.target,
  .i p.n.kind, .i p.n.mode, .i p.n.uid, .i p.n.gid, .sl (encBytes p.n.data) .no, .sl (p.n.ents.map encEnt) .no, .s p.n.target]
def Tab.placeOf (T : Tab) (f : Found) : Place := ⟨f, T.at f.dir, T.at f.node⟩
def Tab.mayTake (T : Tab) (c : Cred) (f : Found) : Bool := c.sticky (T.at f.dir).mode (T.at f.dir).uid (T.at f.node).uid
def Tab.pfindE (T : Tab) (c : Cred) (r : Found × Int) : Int :=
  if ¬ r.2 = 0 then r.2 else if r.1.node = 0 then 2 else if r.1.name = ⟨#[]⟩ then 22 else if T.can c r.1.dir 2 = false then 13 else if T.mayTake c r.1 = false then 1 else 0
def Tab.cut (T : Tab) (dir : Int) (name : ByteArray) : Tab := if (T.at dir).withoutE name = 0 then (T.putE dir ((T.at dir).withoutN name)).1 else T
def Tab.freeN (T : Tab) (i : Int) (op : List Int) : Tab × Bool := if i = 1 then (T, false) else if 0 < T.links i then (T, false) else if op.contains i = true then (T, false) else T.dropE i
def Tab.below (T : Tab) : Nat → Int → Int → Bool
  | 0, i, dir => decide (i = dir)
  | n + 1, i, dir => if i = dir then true else if i = 0 then false else T.below n (T.parent i) dir
def Tab.unlinkF (T : Tab) (c : Cred) (r : Found × Int) (op : List Int) : Tab × Int :=
  if ¬ T.pfindE c r = 0 then (T, T.pfindE c r) else if (T.at r.1.node).kind = 2 then (T, 21) else (((T.cut r.1.dir r.1.name).freeN r.1.node op).1, 0)
def Tab.rmdirF (T : Tab) (c : Cred) (r : Found × Int) : Tab × Int :=
  if ¬ T.pfindE c r = 0 then (T, T.pfindE c r) else if ¬ (T.at r.1.node).kind = 2 then (T, 20) else if 0 < ((T.at r.1.node).ents.length : Int) then (T, 39) else (((T.cut r.1.dir r.1.name).dropE r.1.node).1, 0)
def Tab.overE (T : Tab) (c : Cred) (p q : Found) : Int :=
  if T.mayTake c q = false then 1 else if (T.at p.node).kind = 2 ∧ ¬ (T.at q.node).kind = 2 then 20 else if (T.at q.node).kind = 2 ∧ ¬ (T.at p.node).kind = 2 then 21 else if 0 < ((T.at q.node).ents.length : Int) then 39 else 0
/-- An entry is put into a directory. -/
def Tab.into (T : Tab) (dir : Int) (name : ByteArray) (i : Int) : Tab × Int := if (T.at dir).withE name i = 0 then T.putE dir ((T.at dir).withN name i) else (T, (T.at dir).withE name i)
def Tab.moveF (T : Tab) (p q : Found) (op : List Int) : Tab × Int := ((((T.cut p.dir p.name).into q.dir q.name p.node).1.freeN q.node op).1, ((T.cut p.dir p.name).into q.dir q.name p.node).2)
def Tab.renameE (T : Tab) (c : Cred) (p q : Found × Int) : Int :=
  if ¬ T.pfindE c p = 0 then T.pfindE c p else if ¬ q.2 = 0 then q.2 else if q.1.name = ⟨#[]⟩ then 22 else if T.can c q.1.dir 3 = false then 13 else if q.1.node = p.1.node then 0
  else if (T.at p.1.node).kind = 2 ∧ T.below 24 q.1.dir p.1.node = true then 22 else if q.1.node = 0 ∧ ¬ q.1.dir = p.1.dir ∧ 8 ≤ ((T.at q.1.dir).ents.length : Int) then 28
  else if ¬ q.1.node = 0 then T.overE c p.1 q.1 else 0
def Tab.renameF (T : Tab) (c : Cred) (p q : Found × Int) (op : List Int) : Tab × Int :=
  if ¬ T.renameE c p q = 0 then (T, T.renameE c p q) else if q.1.node = p.1.node then (T, 0)
  else if ¬ q.1.node = 0 then (T.cut q.1.dir q.1.name).moveF p.1 q.1 op else T.moveF p.1 q.1 op
theorem good_cut {T : Tab} (h : T.good) (dir : Int) (name : ByteArray) : (T.cut dir name).good := by
  unfold Tab.cut
  split
  · exact good_putE h _ _
  · exact h
theorem good_freeN {T : Tab} (h : T.good) (i : Int) (op : List Int) : (T.freeN i op).1.good := by
  unfold Tab.freeN
  split
  · exact h
  split
  · exact h
  split
  · exact h
  · exact good_dropE h _
theorem good_into {T : Tab} (h : T.good) (dir : Int) (name : ByteArray) (i : Int) : (T.into dir name i).1.good := by
  unfold Tab.into
  split
  · exact good_putE h _ _
  · exact h
theorem good_unlink {T : Tab} (h : T.good) (c : Cred) (r : Found × Int) (op : List Int) : (T.unlinkF c r op).1.good := by
  unfold Tab.unlinkF
  split
  · exact h
  split
  · exact h
  · exact good_freeN (good_cut h _ _) _ _
theorem good_rmdir {T : Tab} (h : T.good) (c : Cred) (r : Found × Int) : (T.rmdirF c r).1.good := by
  unfold Tab.rmdirF
  split
  · exact h
  split
  · exact h
  split
  · exact h
  · exact good_dropE (good_cut h _ _) _
theorem good_move {T : Tab} (h : T.good) (p q : Found) (op : List Int) : (T.moveF p q op).1.good := good_freeN (good_into (good_cut h _ _) _ _ _) _ _
theorem good_rename {T : Tab} (h : T.good) (c : Cred) (p q : Found × Int) (op : List Int) : (T.renameF c p q op).1.good := by
  unfold Tab.renameF
  split
  · exact h
  split
  · exact h
  split
  · exact good_move (good_cut h _ _) _ _ _
  · exact good_move h _ _ _
end Abs
end Go.Proofs.Ytpmnfbgnlanpoaa

set_option linter.unusedVariables false
namespace Go.Proofs.Ytpmnfbgnlanpoaa
namespace Abs
set_option linter.unusedSimpArgs false
set_option maxRecDepth 10000
set_option maxHeartbeats 2000000
attribute [local irreducible] AOps AW AP ACalls thenQ inBlk noGoto

/-! ### package prune -/
theorem csticky_c {c : Cred} {mode du u : Int} {H : AHeap} {K : AVal → AHeap → Prop} (hK : K (.b (c.sticky mode du u)) H) : ACalls Try.prog 94 [.agg (encCred c), .i mode, .i du, .i u] H K := by
  refine acalls_body Try.func94 rfl rfl rfl ?_
  repeat first|apply w6|apply w7
  refine s_box rfl rfl rfl (fun b4 hb4 => ?_); have hb := hb4; (try simp only [put_none_iff, prot_none_iff] at hb); (repeat obtain ⟨_, _, hb⟩ := hb)
  repeat first|(apply x1;apply r0;apply r0)|apply w4|apply w6|apply w5
  refine aw_prot [b4] (allc (by apply q0) (allc0 _)) ?_
  refine aw_plan mixed (.take 0 (.take 2 (.take 3 (.take 4 (.take 5 (.take 6 (.take 7 (.take 8 (.take 9 (.take 10 (.take 11 (.take 12 (.one 1 (.one 13 (.one 14 (.take 15 .done)))))))))))))))) (by kernel_rfl) ?_
  repeat first|(apply y1;apply r0;apply r0)|(apply y2;apply r0;apply r0;(with_reducible repeat first|apply q0|apply pg|exact mm0);apply r0)
  refine d_bits rfl rfl rfl rfl rfl rfl ?_
  repeat first|(apply x9;apply r0)|(apply y1;apply r0;apply r0)|(apply y4;apply r0)|(apply y2;apply r0;apply r0;(with_reducible repeat first|apply q0|apply pg|exact mm0);apply r0)
  refine root_c ?_
  repeat first|(apply xbs;apply r0)|(apply x9;apply r0)|apply w4|(apply y4;apply r0)
  refine one_c (l := [c.root, decide (bitsR .and .i64 mode 512 = 0), decide (du = c.uid), decide (u = c.uid)]) (by simp) ?_
  repeat first|apply w4|(apply y1;apply r0;apply r0)|apply y0
  refine prot_done ?_
  repeat first|apply wd|apply w5
  refine rt1 (H' := H) rfl rfl (.refl _) (by repeat first|exact s0|(apply su1;assumption)) ?_
  unfold Cred.sticky at hK
  simpa using hK
theorem psticky_c {p : Place} {c : Cred} {H : AHeap} {K : AVal → AHeap → Prop} (hK : K (.b (c.sticky p.d.mode p.d.uid p.n.uid)) H) : ACalls Try.prog 78 [.agg (encP p), .agg (encCred c)] H K := by
  refine acalls_body Try.func78 rfl rfl rfl ?_
  repeat first|apply w6|apply w7
  refine s_box rfl rfl rfl (fun b2 hb2 => ?_); have hb := hb2; (try simp only [put_none_iff, prot_none_iff] at hb); (repeat obtain ⟨_, _, hb⟩ := hb)
  skip
  refine s_box rfl rfl rfl (fun b3 hb3 => ?_); have hb := hb3; (try simp only [put_none_iff, prot_none_iff] at hb); (repeat obtain ⟨_, _, hb⟩ := hb)
  repeat first|(apply x1;apply r0;apply r0)|(apply x2;apply r0;(with_reducible repeat first|assumption|apply q0|apply q3);apply r0)|(apply x9;apply r0)|apply w4|apply w6|apply w7|apply w5
  refine csticky_c ?_
  repeat first|(apply x1;apply r0;apply r0)|apply w4|apply wd|apply w5
  exact rt1 (H' := H) rfl rfl (.refl _) (by repeat first|exact s0|(apply su1;assumption)) hK
theorem pat_c {t : Nat} {T : Tab} (hg : T.good) {c : Cred} (hc : c.small) {path : ByteArray} {H : AHeap} (hT : Rd H t (encTab T)) {K : AVal → AHeap → Prop}
    (hK : K (.tup [.agg (encP (T.placeOf (T.resolve c path false).1)), .i (T.resolve c path false).2]) H) : ACalls Try.prog 56 [.ptr t 0, .agg (encCred c), .s path] H K := by
  refine acalls_body Try.func56 rfl rfl rfl ?_
  unfold Tab.placeOf at hK
  repeat first|apply w6|apply w7
  refine s_box rfl rfl rfl (fun b4 hb4 => ?_); have hb := hb4; (try simp only [put_none_iff, prot_none_iff] at hb); (repeat obtain ⟨_, _, hb⟩ := hb)
  skip
  refine s_alloc tk rfl rfl rfl (fun b6 hb6 => ?_); have hb := hb6; (try simp only [put_none_iff, prot_none_iff] at hb); (repeat obtain ⟨_, _, hb⟩ := hb)
  repeat first|(apply x1;apply r0;apply r0)|(apply x2;apply r0;(with_reducible repeat first|assumption|apply q0|apply q3);apply r0)|(apply x9;apply r0)|apply w4|apply w6|apply w7|apply w5
  refine resolve_c hg hc (by with_reducible repeat first|assumption|apply q3|exact n1 ‹_› ‹_›) ?_
  generalize T.resolve c path false = r at hK ⊢
  repeat (apply x1;apply r0;apply r0)
  refine s_alloc tk rfl rfl rfl (fun b8 hb8 => ?_); have hb := hb8; (try simp only [put_none_iff, prot_none_iff] at hb); (repeat obtain ⟨_, _, hb⟩ := hb)
  repeat first|(apply gO;first|(apply x1;apply r0;apply r0)|(apply x2;apply r0;(with_reducible repeat first|apply q0|apply ps);apply r0)|(apply xst;apply r0;(with_reducible repeat first|apply q0|apply ps);apply r0)|(apply xbd;apply r0)|apply w4)|(apply gW;first|apply w6|apply w7)|apply w5
  refine s_alloc tk rfl rfl rfl (fun b10 hb10 => ?_); have hb := hb10; (try simp only [put_none_iff, prot_none_iff] at hb); (repeat obtain ⟨_, _, hb⟩ := hb)
  repeat first|(apply gO;first|(apply x1;apply r0;apply r0)|(apply x2;apply r0;(with_reducible repeat first|assumption|apply q0|apply ps|apply q3);apply r0)|(apply xst;apply r0;(with_reducible repeat first|assumption|apply q0|apply ps|apply q3);apply r0)|(apply x9;apply r0)|apply w4)|(apply gW;first|apply w6|apply w7)|apply w5
  refine tget_c hg.wf (by with_reducible repeat first|assumption|apply q3|exact n1 ‹_› ‹_›) ?_
  repeat first|(apply gO;first|(apply x1;apply r0;apply r0)|(apply x2;apply r0;(with_reducible repeat first|assumption|apply q0|apply ps|apply q3);apply r0)|(apply xst;apply r0;(with_reducible repeat first|assumption|apply q0|apply ps|apply q3);apply r0)|(apply x9;apply r0)|apply w4)|(apply gW;first|apply w6|apply w7)|apply w5
  refine tget_c hg.wf (by with_reducible repeat first|assumption|apply q3|exact n1 ‹_› ‹_›) ?_
  repeat first|(apply gO;first|(apply x1;apply r0;apply r0)|(apply x2;apply r0;(with_reducible repeat first|assumption|apply q0|apply ps|apply gp);apply r0)|(apply xst;apply r0;(with_reducible repeat first|assumption|apply q0|apply ps|apply gp);apply r0)|apply w4)|(apply gW;first|apply w6|apply w7|apply wd)|apply w5
  exact rt2c (H' := H) rfl rfl (by apply q0) rfl (by rfl) rfl (by exact .pair (wk_agg rfl) (.refl _)) (by repeat first|exact s0|(apply su1;assumption)) hK
theorem find2_c {t : Nat} {T : Tab} (hg : T.good) {c : Cred} (hc : c.small) {path : ByteArray} {H : AHeap} (hT : Rd H t (encTab T)) {K : AVal → AHeap → Prop}
    (hK : K (.tup [.agg (encP (T.placeOf (T.resolve c path false).1)), .i (T.pfindE c (T.resolve c path false))]) H) : ACalls Try.prog 55 [.ptr t 0, .agg (encCred c), .s path] H K := by
  refine acalls_body Try.func55 rfl rfl rfl ?_
  unfold Tab.pfindE at hK
  repeat first|apply w6|apply w7
  refine s_box rfl rfl rfl (fun b4 hb4 => ?_); have hb := hb4; (try simp only [put_none_iff, prot_none_iff] at hb); (repeat obtain ⟨_, _, hb⟩ := hb)
  skip
  refine s_alloc tk rfl rfl rfl (fun b6 hb6 => ?_); have hb := hb6; (try simp only [put_none_iff, prot_none_iff] at hb); (repeat obtain ⟨_, _, hb⟩ := hb)
  repeat first|(apply x1;apply r0;apply r0)|(apply x2;apply r0;(with_reducible repeat first|assumption|apply q0|apply q3);apply r0)|(apply x9;apply r0)|apply w4|apply w6|apply w7|apply w5
  refine pat_c hg hc (by with_reducible repeat first|assumption|apply q3|exact n1 ‹_› ‹_›) ?_
  generalize T.resolve c path false = r at hK ⊢
  repeat (apply x1;apply r0;apply r0)
  refine s_alloc tk rfl rfl rfl (fun b8 hb8 => ?_); have hb := hb8; (try simp only [put_none_iff, prot_none_iff] at hb); (repeat obtain ⟨_, _, hb⟩ := hb)
  repeat first|(apply x1;apply r0;apply r0)|(apply xst;apply r0;(apply ps);apply r0)|apply w4|apply w6|apply w7|apply wb|apply w5
  refine aw_cond rfl (fun g1 => ?_) (fun g1 => ?_)<;>first|replace g1:=not_t g1|replace g1:=not_f g1
  · rw [if_pos g1] at hK
    repeat first|(apply gO;first|(apply x1;apply r0;apply r0)|(apply x2;apply r0;(with_reducible repeat first|assumption|apply q0|apply ps|apply gp);apply r0)|(apply xst;apply r0;(with_reducible repeat first|assumption|apply q0|apply ps|apply gp);apply r0)|apply w4)|(apply gW;first|apply w6|apply w7|apply wd)|apply w5|apply we|apply wj
    exact rt2c (H' := H) rfl rfl (by apply q0) rfl (by rfl) rfl (by exact .pair (wk_agg rfl) (.refl _)) (by repeat first|exact s0|(apply su1;assumption)) hK
  have g1' : r.2 = 0 := g1
  rw [if_neg (fun q => q g1')] at hK
  repeat first|(apply x1;apply r0;apply r0)|(apply x2;apply r0;(apply q0);apply r0)|apply w4|apply w6|apply w7|apply w5
  refine aw_cond rfl (fun g2 => ?_) (fun g2 => ?_)<;>first|replace g2:=of_decide_eq_true g2|replace g2:=of_decide_eq_false g2
  · rw [if_pos (show r.1.node = 0 from g2)] at hK
    repeat first|(apply gO;first|(apply x1;apply r0;apply r0)|(apply x2;apply r0;(with_reducible repeat first|assumption|apply q0|apply ps|apply gp);apply r0)|(apply xst;apply r0;(with_reducible repeat first|assumption|apply q0|apply ps|apply gp);apply r0)|apply w4)|(apply gW;first|apply w6|apply w7|apply wd)|apply w5|apply we|apply wj
    exact rt2c (H' := H) rfl rfl (by apply q0) rfl (by rfl) rfl (by exact .pair (wk_agg rfl) (.refl _)) (by repeat first|exact s0|(apply su1;assumption)) hK
  rw [if_neg (show ¬ r.1.node = 0 from g2)] at hK
  repeat first|(apply x1;apply r0;apply r0)|(apply x2;apply r0;(apply q0);apply r0)|apply w4|apply w6|apply w7|apply w5
  refine aw_cond rfl (fun g3 => ?_) (fun g3 => ?_)<;>first|replace g3:=of_decide_eq_true g3|replace g3:=of_decide_eq_false g3
  · rw [if_pos (show r.1.name = ⟨#[]⟩ from g3)] at hK
    repeat first|(apply gO;first|(apply x1;apply r0;apply r0)|(apply x2;apply r0;(with_reducible repeat first|assumption|apply q0|apply ps|apply gp);apply r0)|(apply xst;apply r0;(with_reducible repeat first|assumption|apply q0|apply ps|apply gp);apply r0)|apply w4)|(apply gW;first|apply w6|apply w7|apply wd)|apply w5|apply we|apply wj
    exact rt2c (H' := H) rfl rfl (by apply q0) rfl (by rfl) rfl (by exact .pair (wk_agg rfl) (.refl _)) (by repeat first|exact s0|(apply su1;assumption)) hK
  rw [if_neg (show ¬ r.1.name = ⟨#[]⟩ from g3)] at hK
  repeat first|(apply x1;apply r0;apply r0)|(apply x2;apply r0;(with_reducible repeat first|assumption|apply q0|apply q3);apply r0)|(apply x9;apply r0)|apply w6|apply w7
  refine can1_c hg.wf hc (by with_reducible repeat first|assumption|apply q3|exact n1 ‹_› ‹_›) ?_
  rw [show (T.placeOf r.1).f.dir = r.1.dir from rfl]
  cases hcan : T.can c r.1.dir 2 with
  | false =>
    rw [hcan, if_pos rfl] at hK
    repeat first|(apply gO;first|(apply x1;apply r0;apply r0)|(apply x2;apply r0;(with_reducible repeat first|assumption|apply q0|apply ps|apply gp);apply r0)|(apply xst;apply r0;(with_reducible repeat first|assumption|apply q0|apply ps|apply gp);apply r0)|apply w4)|(apply gW;first|apply w6|apply w7|(apply w8;apply r0)|apply wd)|apply w5|apply we|apply wj
    exact rt2c (H' := H) rfl rfl (by apply q0) rfl (by rfl) rfl (by exact .pair (wk_agg rfl) (.refl _)) (by repeat first|exact s0|(apply su1;assumption)) hK
  | true =>
    rw [hcan, if_neg (by decide)] at hK
    repeat first|(apply gO;first|(apply x1;apply r0;apply r0)|(apply x2;apply r0;(with_reducible repeat first|assumption|apply q0|apply q3);apply r0)|(apply x9;apply r0)|apply w4)|(apply gW;first|apply w6|apply w7|(apply w9;apply r0))|apply w5
    refine psticky_c ?_
    rw [show c.sticky (T.placeOf r.1).d.mode (T.placeOf r.1).d.uid (T.placeOf r.1).n.uid = T.mayTake c r.1 from rfl]
    cases hm : T.mayTake c r.1 with
    | false =>
      rw [hm, if_pos rfl] at hK
      repeat first|(apply gO;first|(apply x1;apply r0;apply r0)|(apply x2;apply r0;(with_reducible repeat first|assumption|apply q0|apply ps|apply gp);apply r0)|(apply xst;apply r0;(with_reducible repeat first|assumption|apply q0|apply ps|apply gp);apply r0)|apply w4)|(apply gW;first|apply w6|apply w7|(apply w8;apply r0)|apply wd)|apply w5|apply we|apply wj
      exact rt2c (H' := H) rfl rfl (by apply q0) rfl (by rfl) rfl (by exact .pair (wk_agg rfl) (.refl _)) (by repeat first|exact s0|(apply su1;assumption)) hK
    | true =>
      rw [hm, if_neg (by decide)] at hK
      repeat first|(apply gO;first|(apply x1;apply r0;apply r0)|(apply x2;apply r0;(with_reducible repeat first|assumption|apply q0|apply ps|apply gp);apply r0)|(apply xst;apply r0;(with_reducible repeat first|assumption|apply q0|apply ps|apply gp);apply r0)|apply w4)|(apply gW;first|apply w6|apply w7|(apply w9;apply r0)|apply wa|apply wd)|apply w5|apply wg
      exact rt2c (H' := H) rfl rfl (by apply q0) rfl (by rfl) rfl (by exact .pair (wk_agg rfl) (.refl _)) (by repeat first|exact s0|(apply su1;assumption)) hK
theorem cut_c {t : Nat} {T : Tab} (hg : T.good) {p : Place} {H : AHeap} (hT : H t = some (.cells (encTab T))) {K : AVal → AHeap → Prop}
    (hK : K (.tup []) (H.put t (.cells (encTab (T.cut p.f.dir p.f.name))))) : ACalls Try.prog 59 [.agg (encP p), .ptr t 0] H K := by
  refine acalls_body Try.func59 rfl rfl rfl ?_
  unfold Tab.cut at hK
  repeat first|apply w6|apply w7
  refine s_box rfl rfl rfl (fun b2 hb2 => ?_); have hb := hb2; (try simp only [put_none_iff, prot_none_iff] at hb); (repeat obtain ⟨_, _, hb⟩ := hb)
  repeat first|(apply x1;apply r0;apply r0)|(apply x2;apply r0;(apply q0);apply r0)|(apply x9;apply r0)|apply w4|apply w6|apply w7|apply w5
  refine tget_c hg.wf (by with_reducible repeat first|exact q1 ‹_›|apply q3|exact n2 ‹_› ‹_›) ?_
  have hd := at_few hg p.f.dir
  generalize T.at p.f.dir = d at hK hd ⊢
  repeat (apply x1;apply r0;apply r0)
  refine s_alloc tk rfl rfl rfl (fun b4 hb4 => ?_); have hb := hb4; (try simp only [put_none_iff, prot_none_iff] at hb); (repeat obtain ⟨_, _, hb⟩ := hb)
  repeat first|(apply gO;first|(apply x1;apply r0;apply r0)|(apply x2;apply r0;(with_reducible repeat first|assumption|apply q0|apply ps|apply q3);apply r0)|(apply xst;apply r0;(with_reducible repeat first|assumption|apply q0|apply ps|apply q3);apply r0)|(apply x9;apply r0)|apply w4)|(apply gW;first|apply w6|apply w7)|apply w5
  refine nwithout_c hd.small ?_
  have hws := (withoutN_sizes hd p.f.name).1
  generalize d.withoutE p.f.name = ze at hK ⊢
  generalize d.withoutN p.f.name = zn at hK hws ⊢
  repeat (apply x1;apply r0;apply r0)
  refine s_alloc tk rfl rfl rfl (fun b6 hb6 => ?_); have hb := hb6; (try simp only [put_none_iff, prot_none_iff] at hb); (repeat obtain ⟨_, _, hb⟩ := hb)
  repeat first|(apply x1;apply r0;apply r0)|(apply xst;apply r0;(apply ps);apply r0)|apply w4|apply w6|apply w7|apply w5
  refine aw_cond rfl (fun g1 => ?_) (fun g1 => ?_)<;>first|replace g1:=of_decide_eq_true g1|replace g1:=of_decide_eq_false g1
  · rw [if_pos g1] at hK
    repeat first|(apply x1;apply r0;apply r0)|(apply x2;apply r0;(with_reducible repeat first|assumption|apply q0|apply q3);apply r0)|(apply x9;apply r0)|apply w7
    refine put2_c hg.wf (n := zn) hws (by with_reducible repeat first|assumption|apply gp|exact n2 ‹_› ‹_›) ?_
    repeat apply w4
    exact rt0n (H' := H.put t (.cells (encTab (T.putE p.f.dir zn).1))) rfl (by repeat first|exact s1|(apply su2;assumption)|apply put_sub') hK
  · rw [if_neg g1, put_id' hT] at hK
    repeat apply wa
    exact rt0n (H' := H) rfl (by repeat first|exact s0|(apply su1;assumption)) hK
theorem free_c {t : Nat} {T : Tab} (hg : T.good) {i : Int} {op : List Int} (hop : op.length ≤ 9223372036854775807) {o : Own} {H : AHeap} (hT : H t = some (.cells (encTab T))) {K : AVal → AHeap → Prop}
    (hK : K (.b (T.freeN i op).2) (H.put t (.cells (encTab (T.freeN i op).1)))) : ACalls Try.prog 54 [.ptr t 0, .i i, .sl (encInts op) o] H K := by
  refine acalls_body Try.func54 rfl rfl rfl ?_
  unfold Tab.freeN at hK
  repeat first|(apply x1;apply r0;apply r0)|apply w4|apply w6|apply w7|apply w5
  refine s_gsplit rfl rfl (fun g1 => ?_) (fun g1 => ?_)<;>first|replace g1:=of_decide_eq_true g1|replace g1:=of_decide_eq_false g1
  · rw [if_pos g1, put_id' hT] at hK
    repeat first|(apply gO;first|(apply x1;apply r0;apply r0)|apply w4|(apply w3;apply r0;apply r0))|(apply gW;first|apply w6|apply w7|(apply w8;apply r0)|apply wd)|apply w5|apply we
    exact rt1 (H' := H) rfl rfl (.refl _) s0 hK
  rw [if_neg g1] at hK
  repeat first|(apply x1;apply r0;apply r0)|(apply x5;apply r0)|(apply x9;apply r0)
  refine links_c hg.wf (by with_reducible repeat exact q1 ‹_›) ?_
  repeat first|(apply x1;apply r0;apply r0)|(apply x5;apply r0)
  refine s_gsplit rfl rfl (fun g2 => ?_) (fun g2 => ?_)<;>first|replace g2:=of_decide_eq_true g2|replace g2:=of_decide_eq_false g2
  · rw [if_pos g2, put_id' hT] at hK
    repeat first|(apply gO;first|(apply x1;apply r0;apply r0)|apply w4|(apply w3;apply r0;apply r0))|(apply gW;first|apply w6|apply w7|(apply w8;apply r0)|apply wd)|apply w5|apply we
    exact rt1 (H' := H) rfl rfl (.refl _) s0 hK
  rw [if_neg g2] at hK
  repeat first|(apply x1;apply r0;apply r0)|(apply x5;apply r0)|(apply x9;apply r0)
  refine contains_c hop ?_
  cases hq : op.contains i with
  | true =>
    rw [hq, if_pos rfl, put_id' hT] at hK
    repeat first|(apply gO;first|(apply x1;apply r0;apply r0)|apply w4)|(apply gW;first|apply w6|apply w7|(apply w8;apply r0)|apply wd)|apply w5|apply we
    exact rt1 (H' := H) rfl rfl (.refl _) s0 hK
  | false =>
    rw [hq, if_neg (by decide)] at hK
    repeat first|(apply gO;first|(apply x1;apply r0;apply r0)|(apply x9;apply r0)|apply w4)|(apply gW;first|apply w6|apply w7|(apply w9;apply r0)|apply wa)|apply w5
    refine drop2_c hg.wf (by with_reducible assumption) ?_
    repeat first|(apply x1;apply r0;apply r0)|apply w4|apply wd|apply w5
    exact rt1 (H' := H.put t (.cells (encTab (T.dropE i).1))) rfl rfl (.refl _) s0 hK
theorem below_c {t : Nat} {T : Tab} (hg : T.good) {i dir : Int} {H : AHeap} (hT : Rd H t (encTab T)) {K : AVal → AHeap → Prop} (hK : K (.b (T.below 24 i dir)) H) : ACalls Try.prog 53 [.ptr t 0, .i i, .i dir] H K := by
  refine acalls_body Try.func53 rfl rfl rfl ?_
  repeat first|(apply x1;apply r0;apply r0)|apply w4|apply w6|apply w7|apply wb|apply w5
  obtain ⟨m, hm⟩ : ∃ m : Nat, m = 24 := ⟨24, rfl⟩
  rw [← hm] at hK
  refine aw_loop (fun s : Nat × Int => s.1 ≤ 24 ∧ T.below (24 - s.1) s.2 dir = T.below m i dir) (fun s => [(0, .ptr t 0), (1, .i s.2), (2, .i dir), (7, .i s.1)]) (fun _ => H) (fun s => 24 - s.1) (0, i) ⟨Nat.zero_le _, by show T.below 24 i dir = T.below m i dir; rw [hm]⟩ (by repeat (first | exact Fr.sub_nil _ | refine Fr.sub_cons rfl ?_)) (AHeap.sub_refl _) ?_
  rintro ⟨k, j⟩ ⟨hk, hb⟩
  simp only at hk hb
  repeat first|(apply x1;apply r0;apply r0)|apply w4|apply w6|apply w7|apply w5
  refine aw_cond rfl (fun c => ?_) (fun c => ?_)<;>first|replace c:=of_decide_eq_true c|replace c:=of_decide_eq_false c
  · have c' : k < 24 := by omega
    rw [show 24 - k = (24 - (k + 1)) + 1 by omega] at hb
    simp only [Tab.below] at hb
    repeat first|(apply x1;apply r0;apply r0)|apply w6|apply w7|apply wa|apply wb|apply w5
    refine s_gsplit rfl rfl (fun g1 => ?_) (fun g1 => ?_)<;>first|replace g1:=of_decide_eq_true g1|replace g1:=of_decide_eq_false g1
    · rw [if_pos g1] at hb
      repeat first|(apply gO;first|(apply x1;apply r0;apply r0)|apply w4|(apply w3;apply r0;apply r0))|(apply gW;first|apply w6|apply w7|(apply w8;apply r0)|apply wd|apply wc)|apply w5|apply wf|apply wh|(apply wi;apply r0)
      rw [← hb] at hK
      refine rt1 (H' := H) rfl rfl (.refl _) s0 ?_
      rw [decide_eq_true g1]
      exact hK
    rw [if_neg g1] at hb
    repeat first|(apply x1;apply r0;apply r0)|(apply x5;apply r0)|apply w4|apply w5
    refine aw_cond rfl (fun g2 => ?_) (fun g2 => ?_)<;>first|replace g2:=of_decide_eq_true g2|replace g2:=of_decide_eq_false g2
    · rw [if_pos g2] at hb
      repeat first|(apply gO;first|(apply x1;apply r0;apply r0)|apply w4)|(apply gW;first|apply w6|apply w7|apply wd|apply wc)|apply w5|apply wf|apply wh|(apply wi;apply r0)
      rw [← hb] at hK
      refine rt1 (H' := H) rfl rfl (.refl _) s0 ?_
      rw [decide_eq_false g1]
      exact hK
    rw [if_neg g2] at hb
    repeat first|(apply x1;apply r0;apply r0)|(apply x9;apply r0)|apply w7|apply wa|apply w5
    refine parent_c hg.wf (by with_reducible assumption) ?_
    repeat first|(apply x1;apply r0;apply r0)|apply w4|(apply x6;apply r0;omega)|apply w7|apply w5|apply wg
    exact ⟨(k + 1, T.parent j), ⟨c', hb⟩, by simp only; omega, (by repeat (first | exact Fr.sub_nil _ | refine Fr.sub_cons rfl ?_)), AHeap.sub_refl _⟩
  · have hke : k = 24 := by omega
    subst hke
    repeat first|(apply gO;first|(apply x1;apply r0;apply r0)|apply w4)|(apply gW;first|apply w6|apply w7|apply wd|apply wc)|apply w5|apply wf|apply wh
    rw [← hb] at hK
    exact rt1 (H' := H) rfl rfl (.refl _) s0 hK
theorem unlink_c {t : Nat} {T : Tab} (hg : T.good) {c : Cred} (hc : c.small) {path : ByteArray} {op : List Int} (hop : op.length ≤ 9223372036854775807) {o : Own} {H : AHeap} (hT : H t = some (.cells (encTab T))) {K : AVal → AHeap → Prop}
    (hK : K (.i (T.unlinkF c (T.resolve c path false) op).2) (H.put t (.cells (encTab (T.unlinkF c (T.resolve c path false) op).1)))) : ACalls Try.prog 29 [.ptr t 0, .agg (encCred c), .s path, .sl (encInts op) o] H K := by
  refine acalls_body Try.func29 rfl rfl rfl ?_
  unfold Tab.unlinkF at hK
  repeat first|apply w6|apply w7
  refine s_box rfl rfl rfl (fun b5 hb5 => ?_); have hb := hb5; (try simp only [put_none_iff, prot_none_iff] at hb); (repeat obtain ⟨_, _, hb⟩ := hb)
  repeat first|(apply x1;apply r0;apply r0)|(apply x2;apply r0;(apply q0);apply r0)|(apply x9;apply r0)|apply w4|apply w6|apply w7|apply w5
  refine find2_c hg hc (by with_reducible repeat first|exact q1 ‹_›|apply q3|exact n2 ‹_› ‹_›) ?_
  generalize T.resolve c path false = r at hK ⊢
  generalize T.pfindE c r = ze at hK ⊢
  repeat (apply x1;apply r0;apply r0)
  refine s_alloc tk rfl rfl rfl (fun b9 hb9 => ?_); have hb := hb9; (try simp only [put_none_iff, prot_none_iff] at hb); (repeat obtain ⟨_, _, hb⟩ := hb)
  repeat first|(apply x1;apply r0;apply r0)|(apply xst;apply r0;(apply ps);apply r0)|apply w4|apply w6|apply w7|apply w5
  refine aw_cond rfl (fun g1 => ?_) (fun g1 => ?_)<;>first|replace g1:=not_t g1|replace g1:=not_f g1
  · rw [if_pos g1, put_id' hT] at hK
    repeat first|(apply x1;apply r0;apply r0)|apply w4|apply w6|apply w7|apply wd|apply w5|apply we
    exact rt1 (H' := H) rfl rfl (.refl _) (by repeat first|exact s0|(apply su1;assumption)) hK
  have g1' : ze = 0 := g1
  rw [if_neg (fun q => q g1')] at hK
  repeat first|(apply x1;apply r0;apply r0)|(apply x2;apply r0;(apply q0);apply r0)|apply w4|apply w6|apply w7|apply wa|apply w5
  refine aw_cond rfl (fun g2 => ?_) (fun g2 => ?_)<;>first|replace g2:=of_decide_eq_true g2|replace g2:=of_decide_eq_false g2
  · rw [if_pos (show (T.at r.1.node).kind = 2 from g2), put_id' hT] at hK
    repeat first|(apply x1;apply r0;apply r0)|apply w4|apply w6|apply w7|apply wd|apply w5|apply we
    exact rt1 (H' := H) rfl rfl (.refl _) (by repeat first|exact s0|(apply su1;assumption)) hK
  rw [if_neg (show ¬ (T.at r.1.node).kind = 2 from g2)] at hK
  repeat first|(apply x1;apply r0;apply r0)|(apply x2;apply r0;(apply q0);apply r0)|(apply x9;apply r0)|apply w6|apply w7|apply wa|apply w5
  refine cut_c (p := T.placeOf r.1) hg (by with_reducible repeat first|assumption|apply gp|exact n2 ‹_› ‹_›) ?_
  rw [show (T.placeOf r.1).f = r.1 from rfl]
  have hgc := good_cut hg r.1.dir r.1.name
  generalize T.cut r.1.dir r.1.name = U at hK hgc ⊢
  repeat first|(apply x1;apply r0;apply r0)|(apply x2;apply r0;(with_reducible repeat first|apply q0|apply q3|exact n4 ‹_› ‹_›);apply r0)|(apply x9;apply r0)|apply w4|apply w6|apply w7|apply w5
  refine free_c hgc hop (by apply ps) ?_
  repeat first|(apply x1;apply r0;apply r0)|apply w4|apply w6|apply w7|apply wd|apply w5
  exact rt1 (H' := H.put t (.cells (encTab (U.freeN r.1.node op).1))) rfl rfl (.refl _) (by repeat first|exact s1|(apply su2;assumption)|apply put_sub'|apply del_sub1) hK
theorem rmdir_c {t : Nat} {T : Tab} (hg : T.good) {c : Cred} (hc : c.small) {path : ByteArray} {H : AHeap} (hT : H t = some (.cells (encTab T))) {K : AVal → AHeap → Prop}
    (hK : K (.i (T.rmdirF c (T.resolve c path false)).2) (H.put t (.cells (encTab (T.rmdirF c (T.resolve c path false)).1)))) : ACalls Try.prog 30 [.ptr t 0, .agg (encCred c), .s path] H K := by
  refine acalls_body Try.func30 rfl rfl rfl ?_
  unfold Tab.rmdirF at hK
  repeat first|apply w6|apply w7
  refine s_box rfl rfl rfl (fun b4 hb4 => ?_); have hb := hb4; (try simp only [put_none_iff, prot_none_iff] at hb); (repeat obtain ⟨_, _, hb⟩ := hb)
  repeat first|(apply x1;apply r0;apply r0)|(apply x2;apply r0;(apply q0);apply r0)|(apply x9;apply r0)|apply w4|apply w6|apply w7|apply w5
  refine find2_c hg hc (by with_reducible repeat first|exact q1 ‹_›|apply q3|exact n2 ‹_› ‹_›) ?_
  generalize T.resolve c path false = r at hK ⊢
  generalize T.pfindE c r = ze at hK ⊢
  have hle := ents_len (T.at r.1.node).ents
  repeat (apply x1;apply r0;apply r0)
  refine s_alloc tk rfl rfl rfl (fun b7 hb7 => ?_); have hb := hb7; (try simp only [put_none_iff, prot_none_iff] at hb); (repeat obtain ⟨_, _, hb⟩ := hb)
  repeat first|(apply x1;apply r0;apply r0)|(apply xst;apply r0;(apply ps);apply r0)|apply w4|apply w6|apply w7|apply wb|apply w5
  refine aw_cond rfl (fun g1 => ?_) (fun g1 => ?_)<;>first|replace g1:=not_t g1|replace g1:=not_f g1
  · rw [if_pos g1, put_id' hT] at hK
    repeat first|(apply gO;first|(apply x1;apply r0;apply r0)|apply w4)|(apply gW;first|apply w6|apply w7|apply wd)|apply w5|apply we|apply wj
    exact rt1 (H' := H) rfl rfl (.refl _) (by repeat first|exact s0|(apply su1;assumption)) hK
  have g1' : ze = 0 := g1
  rw [if_neg (fun q => q g1')] at hK
  repeat first|(apply x1;apply r0;apply r0)|(apply x2;apply r0;(apply q0);apply r0)|apply w4|apply w6|apply w7|apply w5
  refine aw_cond rfl (fun g2 => ?_) (fun g2 => ?_)<;>first|replace g2:=not_t g2|replace g2:=not_f g2
  · rw [if_pos (show ¬ (T.at r.1.node).kind = 2 from g2), put_id' hT] at hK
    repeat first|(apply gO;first|(apply x1;apply r0;apply r0)|apply w4)|(apply gW;first|apply w6|apply w7|apply wd)|apply w5|apply we|apply wj
    exact rt1 (H' := H) rfl rfl (.refl _) (by repeat first|exact s0|(apply su1;assumption)) hK
  have g2' : (T.at r.1.node).kind = 2 := g2
  rw [if_neg (fun q => q g2')] at hK
  repeat first|(apply x1;apply r0;apply r0)|(apply x2;apply r0;(apply q0);apply r0)|apply w4|apply w6|apply w7|apply w5
  refine aw_cond rfl (fun g3 => ?_) (fun g3 => ?_)<;>first|replace g3:=of_decide_eq_true g3|replace g3:=of_decide_eq_false g3
  · have g3' : 0 < (((T.at r.1.node).ents.map encEnt).length : Int) := g3
    rw [hle] at g3'
    rw [if_pos g3', put_id' hT] at hK
    repeat first|(apply gO;first|(apply x1;apply r0;apply r0)|apply w4)|(apply gW;first|apply w6|apply w7|apply wd)|apply w5|apply we|apply wj
    exact rt1 (H' := H) rfl rfl (.refl _) (by repeat first|exact s0|(apply su1;assumption)) hK
  have g3' : ¬ 0 < (((T.at r.1.node).ents.map encEnt).length : Int) := g3
  rw [hle] at g3'
  rw [if_neg g3'] at hK
  repeat first|(apply gO;first|(apply x1;apply r0;apply r0)|(apply x2;apply r0;(apply q0);apply r0)|(apply x9;apply r0))|(apply gW;first|apply w6|apply w7|apply wa)|apply w5|apply wg
  refine cut_c (p := T.placeOf r.1) hg (by with_reducible repeat first|assumption|apply gp|exact n2 ‹_› ‹_›) ?_
  rw [show (T.placeOf r.1).f = r.1 from rfl]
  have hgc := good_cut hg r.1.dir r.1.name
  generalize T.cut r.1.dir r.1.name = U at hK hgc ⊢
  repeat first|(apply x1;apply r0;apply r0)|(apply x2;apply r0;(with_reducible repeat first|apply q0|apply q3|exact n4 ‹_› ‹_›);apply r0)|(apply x9;apply r0)|apply w4|apply w6|apply w7|apply w5
  refine drop2_c hgc.wf (by apply ps) ?_
  repeat first|(apply x1;apply r0;apply r0)|apply w4|apply w6|apply w7|apply wd|apply w5
  exact rt1 (H' := H.put t (.cells (encTab (U.dropE r.1.node).1))) rfl rfl (.refl _) (by repeat first|exact s1|(apply su2;assumption)|apply put_sub'|apply del_sub1) hK
end Abs
end Go.Proofs.Ytpmnfbgnlanpoaa
