import Derived.Test.YtpmnfbgnlanpoaaGQ
set_option linter.unusedVariables false
namespace Go.Proofs.Ytpmnfbgnlanpoaa
namespace Abs
/-! ### PruneSticky: plain law -/
def StickyT (T : Tab) (c : Cred) (R : Tab × Int) : Prop := R.2 = 0 → ∀ i e, e ∈ (T.at i).ents → (R.1.at i).find e.name = e.node ∨ c.sticky (T.at i).mode (T.at i).uid (T.at e.node).uid = true
theorem at_ents_dir {T : Tab} (hg : T.good) {i : Int} {e : Ent} (h : e ∈ (T.at i).ents) : (T.at i).kind = 2 := dir_of_ent hg ⟨e, h, rfl⟩
theorem sticky_gone {T U : Tab} (hg : T.good) {c : Cred} {f : Found} (hP : TakeAt T f) (he : (T.at f.node).ents = []) (hm : T.mayTake c f = true) (h : Gone T U f) : StickyT T c (U, 0) := fun _ i e hmem => by
  have hk := at_ents_dir hg hmem
  have hr := (dir_rising hg hk).2.2
  show (U.at i).find e.name = e.node ∨ _
  rw [h.at_]
  split
  · rename_i z
    rw [z.1, he] at hmem; cases hmem
  · split
    · rename_i z
      subst z
      have hr2 := ((dirOk_iff (n := (T.at f.dir).rid f.name) hk).1 (rid_ok (dir_rising hg hk).2.1 hk)).2.2.2
      rw [rid_find hr hr2]
      by_cases hn : e.name = f.name
      · refine .inr ?_
        have h1 := find_of_mem hr hmem
        rw [hn, hP.find] at h1
        rw [← h1]; exact hm
      · rw [if_neg hn]; exact .inl (find_of_mem hr hmem)
    · exact .inl (find_of_mem hr hmem)
theorem sticky_moved {T U : Tab} (hg : T.good) {c : Cred} {p q : Found} (hF : MoveF T c p q) (h : MovedTo T U p q) : StickyT T c (U, 0) := fun _ i e hmem => by
  have hk := at_ents_dir hg hmem
  have hr := (dir_rising hg hk).2.2
  show (U.at i).find e.name = e.node ∨ _
  by_cases z1 : i = p.dir ∧ e.name = p.name
  · refine .inr ?_
    have h1 := find_of_mem hr hmem
    rw [z1.2, z1.1, hF.pat.find] at h1
    rw [z1.1, ← h1]; exact hF.pmay
  by_cases z2 : q.node ≠ 0 ∧ i = q.dir ∧ e.name = q.name
  · refine .inr ?_
    have h1 := find_of_mem hr hmem
    rw [z2.2.2, z2.2.1, (hF.qat z2.1).find] at h1
    rw [z2.2.1, ← h1]; exact (over_zero (hF.over z2.1)).1
  have hm2 := (h.mem i e).2 (.inr ⟨hmem, z1, z2⟩)
  exact .inl (find_of_mem (dir_rising h.good (at_ents_dir h.good hm2)).2.2 hm2)
theorem unlink_sticky {T : Tab} (hg : T.good) (ht : T.tree) (c : Cred) (path : ByteArray) : StickyT T c (T.unlinkF c (T.resolve c path false) []) := by
  by_cases h : T.pfindE c (T.resolve c path false) = 0
  · obtain ⟨a1, a2, a3, _, a5⟩ := pfind_zero h
    have hP := take_at hg ht a1 a2 a3
    by_cases hk : (T.at (T.resolve c path false).1.node).kind = 2
    · unfold Tab.unlinkF
      rw [if_neg (fun z => z h), if_pos hk]
      exact fun q => absurd (show (21 : Int) = 0 from q) (by decide)
    · obtain ⟨e, he⟩ := unlink_gone hg ht h hP hk
      rw [e]; exact sticky_gone hg hP he a5 (gone_facts hg ht hP he)
  · unfold Tab.unlinkF
    rw [if_pos h]; exact fun q => absurd q h
theorem rename_sticky {T : Tab} (hg : T.good) (ht : T.tree) (c : Cred) (fr tg : ByteArray) : StickyT T c (T.renameF c (T.resolve c fr false) (T.resolve c tg false) []) := by
  obtain ⟨q, hq⟩ : ∃ q, q = T.resolve c tg false := ⟨_, rfl⟩
  obtain ⟨p, hp⟩ : ∃ p, p = T.resolve c fr false := ⟨_, rfl⟩
  rw [← hp, ← hq]
  by_cases h : T.renameE c p q = 0
  · by_cases hd : q.1.node = p.1.node
    · rw [renameF_same [] h hd]
      exact fun _ i e hmem => .inl (find_of_mem (dir_rising hg (at_ents_dir hg hmem)).2.2 hmem)
    · obtain ⟨e, hm⟩ := rename_to hg ht hp hq h hd
      rw [e]; exact sticky_moved hg (move_facts hg ht hp hq h hd) hm
  · rw [renameF_err [] h]; exact fun q => absurd q h
end Abs
end Go.Proofs.Ytpmnfbgnlanpoaa

set_option linter.unusedVariables false
namespace Go.Proofs.Ytpmnfbgnlanpoaa
namespace Abs
set_option linter.unusedSimpArgs false
set_option maxRecDepth 10000
set_option maxHeartbeats 2000000
attribute [local irreducible] AOps AW AP ACalls thenQ inBlk noGoto

/-! ### PruneSticky -/
theorem pruneSticky_c {room : Int} {l : List Raw} (hl : l.length ≤ 9223372036854775807) {c : Cred} {fr tg : ByteArray} {mv : Bool} {H : AHeap} {K : AVal → AHeap → Prop} (hK : K (.b true) H) :
    ACalls Try.prog 6 [.i room, .sl (encRaws l) .no, .agg (encCred c), .s fr, .s tg, .b mv] H K := by
  refine acalls_body Try.func6 rfl rfl rfl ?_
  repeat first|apply w6|apply w7
  refine s_box rfl rfl rfl (fun b8 hb8 => ?_); have hb := hb8; (try simp only [put_none_iff, prot_none_iff] at hb); (repeat obtain ⟨_, _, hb⟩ := hb)
  repeat first|(apply x1;apply r0;apply r0)|(apply x9;apply r0)|apply w4|apply w6|apply w7|apply w5
  refine awake15_c ?_
  repeat first|(apply gO;first|(apply x1;apply r0;apply r0)|(apply x2;apply r0;(apply q0);apply r0)|(apply x9;apply r0)|apply w4)|(apply gW;first|apply w6|apply w7|(apply w9;apply r0)|apply wa)|apply w5
  refine built15_c hl ?_ (fun T t hB ht => ?_)
  · repeat first|(apply gO;first|(apply x1;apply r0;apply r0)|apply w4|(apply w3;apply r0;apply r0))|(apply gW;first|apply w6|apply w7|(apply w8;apply r0)|apply wd)|apply w5|apply we
    exact rt1 (H' := H) rfl rfl (.refl _) (by repeat first|exact s0|(apply su1;assumption)) hK
  have hg := hB.good
  have hc := hB.small
  have htr := build_tree hB.tree
  have nb7 : b8 ≠ t := by
    have := (put_none_iff.1 ht)
    exact this.2.1
  have ht' : H t = none := (put_none_iff.1 ht).2.2
  repeat first|(apply x1;apply r0;apply r0)|(apply x5;apply r0)|apply w4|apply w6|apply w7|apply w5
  refine s_gsplit rfl rfl (fun g1 => ?_) (fun g1 => ?_)<;>first|replace g1:=of_decide_eq_true g1|replace g1:=of_decide_eq_false g1
  · repeat first|(apply gO;first|(apply x1;apply r0;apply r0)|apply w4|(apply w3;apply r0;apply r0))|(apply gW;first|apply w6|apply w7|(apply w8;apply r0)|apply wd)|apply w5|apply we
    exact rt1 (H' := H) rfl rfl (.refl _) (by repeat first|exact s0|(apply su1;assumption)) hK
  repeat first|(apply x1;apply r0;apply r0)|(apply x5;apply r0)
  refine s_gsplit rfl rfl (fun g2 => ?_) (fun g2 => ?_)<;>first|replace g2:=of_decide_eq_true g2|replace g2:=of_decide_eq_false g2
  · repeat first|(apply gO;first|(apply x1;apply r0;apply r0)|apply w4|(apply w3;apply r0;apply r0))|(apply gW;first|apply w6|apply w7|(apply w8;apply r0)|apply wd)|apply w5|apply we
    exact rt1 (H' := H) rfl rfl (.refl _) (by repeat first|exact s0|(apply su1;assumption)) hK
  repeat first|(apply x1;apply r0;apply r0)|(apply x2;apply r0;(with_reducible repeat first|assumption|apply q0|apply q3);apply r0)|(apply x5;apply r0)|apply w4|apply w5
  refine aw_cond rfl (fun hc0 => ?_) (fun hc0 => ?_)<;>first|replace hc0:=of_decide_eq_true hc0|replace hc0:=of_decide_eq_false hc0
  · repeat first|(apply x1;apply r0;apply r0)|apply w4|apply w6|apply w7|apply wd|apply w5|apply we
    exact rt1 (H' := H) rfl rfl (.refl _) (by repeat first|exact s0|(apply su1;assumption)) hK
  repeat first|(apply x1;apply r0;apply r0)|(apply x9;apply r0)|apply w6|apply w7|apply wa|apply w5
  refine clone_c hg.wf (by apply q0) (fun u hu => ?_)
  generalize hX : AHeap.put _ t _ = X at hu ⊢
  have xT' : X t = some (.cells (encTab T)) := by rw [← hX]; exact (by apply get_eq;(focus apply ps);rfl)
  have x9' : Rd X b8 (encCred c) := by rw [← hX]; exact (by apply rd_eq;(focus with_reducible repeat first|assumption|apply q0|apply q3);rfl)
  have xss : H.sub X := by rw [← hX]; exact (by repeat first|exact s0|(apply su1;assumption))
  clear hX
  have fu : H u = none := sub_none xss hu
  have ntu : t ≠ u := get_ne xT' hu
  have nut : u ≠ t := Ne.symm ntu
  have n9u : b8 ≠ u := rd_ne x9' hu
  generalize hX2 : AHeap.put _ u _ = X2
  have zT2 : X2 t = some (.cells (encTab T)) := by rw [← hX2]; exact (by apply get_eq;(focus with_reducible repeat first|assumption|apply gp);rfl)
  have z92 : Rd X2 b8 (encCred c) := by rw [← hX2]; exact (by apply rd_eq;(focus with_reducible repeat first|assumption|apply q3);rfl)
  have zu2 : X2 u = some (.cells (encTab T)) := by rw [← hX2]; exact (by apply get_eq;(focus apply ps);rfl)
  have zs2 : H.sub X2 := by rw [← hX2]; exact (by repeat first|assumption|(apply su1;assumption))
  clear hX2
  cases mv with
  | true =>
    have hgR := good_rename hg c (T.resolve c fr false) (T.resolve c tg false) []
    have hS := rename_sticky hg htr c fr tg
    repeat first|(apply gO;first|(apply x1;apply r0;apply r0)|(apply x2;apply r0;(with_reducible assumption);apply r0)|(apply x9;apply r0)|apply w4)|(apply gW;first|apply w6|apply w7|(apply w8;apply r0))|apply w5
    refine rename_c (op := []) hg hc (Nat.zero_le _) (by with_reducible assumption) ?_
    generalize T.renameF c (T.resolve c fr false) (T.resolve c tg false) [] = R at hgR hS ⊢
    repeat first|(apply x1;apply r0;apply r0)|apply w4|apply w6|apply w7|apply w5
    refine aw_cond rfl (fun g3 => ?_) (fun g3 => ?_)<;>first|replace g3:=not_t g3|replace g3:=not_f g3
    · repeat first|(apply x1;apply r0;apply r0)|apply w4|apply w6|apply w7|apply wd|apply w5|apply we
      exact rt1 (H' := H) rfl rfl (.refl _) (by repeat first|assumption|(apply su1;assumption)) hK
    have g3' : R.2 = 0 := g3
    have hS' := hS g3'
    have h24 := hgR.wf.2.1
    repeat first|(apply x1;apply r0;apply r0)|apply w4|apply w6|apply w7|apply wa|apply wb|apply w5
    generalize hY : AHeap.put _ t _ = Y
    have yT : Rd Y t (encTab R.1) := by rw [← hY]; exact (by apply rd_eq;(focus apply q0);rfl)
    have yU : Rd Y u (encTab T) := by rw [← hY]; exact (by apply rd_eq;(focus with_reducible repeat first|assumption|exact q1 ‹_›|apply q3);rfl)
    have y8 : Rd Y b8 (encCred c) := by rw [← hY]; exact (by apply rd_eq;(focus with_reducible repeat first|assumption|apply q3);rfl)
    have ys : H.sub Y := by rw [← hY]; exact (by repeat first|assumption|(apply su1;assumption))
    clear hY
    refine aw_loop (fun k : Nat => k = 0 ∨ (k : Int) ≤ R.1.room) (fun k => [(8, .ptr b8 0), (14, .ptr t 0), (16, .ptr u 0), (18, .i ((k : Int) + 1))]) (fun _ => Y) (fun k => R.1.room.toNat - k) 0 (.inl rfl) (by repeat (first | exact Fr.sub_nil _ | refine Fr.sub_cons rfl ?_)) (AHeap.sub_refl _) ?_
    intro k hk
    repeat first|(apply x1;apply r0;apply r0)|(apply x9;apply r0)|apply w6|apply w7
    refine room_c (by with_reducible assumption) ?_
    repeat first|(apply x1;apply r0;apply r0)|apply w4|apply w5
    refine aw_cond rfl (fun c1 => ?_) (fun c1 => ?_)<;>first|replace c1:=of_decide_eq_true c1|replace c1:=of_decide_eq_false c1
    case refine_2 =>
      repeat first|(apply gO;first|(apply x1;apply r0;apply r0)|apply w4)|(apply gW;first|apply w6|apply w7|apply wd|apply wc)|apply w5|apply wf|apply wh
      exact rt1 (H' := H) rfl rfl (.refl _) (by repeat assumption) hK
    have c1' : (k : Int) + 1 ≤ R.1.room := by omega
    have hkk : (((k + 1 : Nat) : Int)) = (k : Int) + 1 := by omega
    have sb := (at_few hgR ((k : Int) + 1)).small
    have hSk := hS' ((k : Int) + 1)
    have hle := ents_len (T.at ((k : Int) + 1)).ents
    have hfew := (at_few hg ((k : Int) + 1)).1
    repeat first|(apply x1;apply r0;apply r0)|(apply x9;apply r0)|apply w6|apply w7|apply wa|apply wb|apply w5
    refine tget_c hg.wf (by with_reducible assumption) ?_
    repeat (apply x1;apply r0;apply r0)
    refine s_alloc tk rfl rfl rfl (fun b19 hb19 => ?_); have hb := hb19; (try simp only [put_none_iff, prot_none_iff] at hb); (repeat obtain ⟨_, _, hb⟩ := hb)
    repeat first|(apply x1;apply r0;apply r0)|(apply xst;apply r0;(apply ps);apply r0)|(apply x9;apply r0)|apply w4|apply w6|apply w7|apply w5
    refine tget_c hgR.wf (by with_reducible repeat first|assumption|apply q3|exact n1 ‹_› ‹_›) ?_
    repeat (apply x1;apply r0;apply r0)
    refine s_alloc tk rfl rfl rfl (fun b21 hb21 => ?_); have hb := hb21; (try simp only [put_none_iff, prot_none_iff] at hb); (repeat obtain ⟨_, _, hb⟩ := hb)
    repeat first|(apply x1;apply r0;apply r0)|(apply xst;apply r0;(apply ps);apply r0)|apply w4|apply w6|apply w7|apply wb|apply w5
    generalize hZ : AHeap.put _ b21 _ = Z
    have zT : Rd Z t (encTab R.1) := by rw [← hZ]; exact (by apply rd_eq;(focus with_reducible repeat first|assumption|apply q3|exact n1 ‹_› ‹_›);rfl)
    have zU : Rd Z u (encTab T) := by rw [← hZ]; exact (by apply rd_eq;(focus with_reducible repeat first|assumption|apply q3|exact n1 ‹_› ‹_›);rfl)
    have z8 : Rd Z b8 (encCred c) := by rw [← hZ]; exact (by apply rd_eq;(focus with_reducible repeat first|assumption|apply q3|exact n1 ‹_› ‹_›);rfl)
    have z19 : Rd Z b19 (encNode (T.at ((k : Int) + 1))) := by rw [← hZ]; exact (by apply rd_eq;(focus with_reducible repeat first|assumption|apply q0|apply q3);rfl)
    have z21 : Rd Z b21 (encNode (R.1.at ((k : Int) + 1))) := by rw [← hZ]; exact (by apply rd_eq;(focus apply q0);rfl)
    have zs : Y.sub Z := by rw [← hZ]; exact (by repeat first|exact s0|(apply su1;assumption))
    clear hZ
    generalize R.1.at ((k : Int) + 1) = nb at sb hSk z21 ⊢
    generalize T.at ((k : Int) + 1) = na at hSk hle hfew z19 ⊢
    refine aw_loop (fun j : Nat => j ≤ na.ents.length) (fun j => [(8, .ptr b8 0), (14, .ptr t 0), (16, .ptr u 0), (18, .i ((k : Int) + 1)), (19, .ptr b19 0), (21, .ptr b21 0), (23, .i (j : Int))]) (fun _ => Z) (fun j => na.ents.length - j) 0 (Nat.zero_le _) (by repeat (first | exact Fr.sub_nil _ | refine Fr.sub_cons rfl ?_)) (AHeap.sub_refl _) ?_
    intro j hj
    repeat first|(apply x1;apply r0;apply r0)|(apply x2;apply r0;(with_reducible assumption);apply r0)|apply w4|apply w6|apply w7|apply w5
    refine aw_cond rfl (fun c3 => ?_) (fun c3 => ?_)<;>first|replace c3:=of_decide_eq_true c3|replace c3:=of_decide_eq_false c3
    case refine_2 =>
      repeat first|(apply gO;first|(apply x1;apply r0;apply r0)|apply w4|(apply x6;apply r0;omega))|(apply gW;first|apply w7|apply wc)|apply w5|apply wg|apply wf|apply wh
      exact ⟨k + 1, by omega, by omega, (by repeat (first | exact Fr.sub_nil _ | refine Fr.sub_cons rfl ?_)), zs⟩
    have c3' : j < na.ents.length := by
      have h9 : (j : Int) < ((na.ents.map encEnt).length : Int) := c3
      rw [hle] at h9; omega
    have hSj := hSk _ (List.getElem_mem c3')
    generalize hej : na.ents[j] = ej at hSj
    have hget : (na.ents.map encEnt)[((j : Nat) : Int).toNat]? = some (encEnt ej) := by rw [← hej]; simp [c3']
    repeat first|apply w6|apply wa|apply wb|apply w5
    refine aw_prot [b19, b21] (allc (by with_reducible assumption) (allc (by with_reducible assumption) (allc0 _))) ?_
    refine aw_plan mixed (.take 0 (.take 1 (.take 2 (.take 3 (.take 4 (.take 5 (.take 6 (.take 8 (.take 9 (.take 10 (.take 11 (.take 12 (.take 13 (.one 7 (.take 14 .done))))))))))))))) (by kernel_rfl) ?_
    repeat first|(apply y1;apply r0;apply r0)|(apply y2;apply r0;apply r0;(with_reducible repeat first|assumption|apply pg|exact mm0|apply mm1);apply r0)
    refine d_index rfl rfl rfl rfl rfl rfl (by omega) hget rfl ?_
    repeat first|(apply y1;apply r0;apply r0)|(apply y2;apply r0;apply r0;(with_reducible repeat first|assumption|apply pg|exact mm0);apply r0)|(apply y3;apply r0;apply r0)
    refine d_index rfl rfl rfl rfl rfl rfl (by omega) hget rfl ?_
    repeat first|(apply x9;apply r0)|(apply y1;apply r0;apply r0)|(apply y4;apply r0)|(apply y3;apply r0;apply r0)
    refine find_c sb ?_
    repeat first|apply w4|(apply y1;apply r0;apply r0)|apply y0
    refine prot_done ?_
    repeat apply w5
    refine aw_cond rfl (fun v1 => ?_) (fun v1 => ?_)<;>first|replace v1:=of_decide_eq_true v1|replace v1:=of_decide_eq_false v1
    · repeat first|(apply gO;first|(apply x1;apply r0;apply r0)|apply w4|(apply x6;apply r0;omega))|(apply gW;first|apply w7|apply wc)|apply w5|apply wf|apply wh
      exact ⟨j + 1, by omega, by omega, (by repeat (first | exact Fr.sub_nil _ | refine Fr.sub_cons rfl ?_)), s0⟩
    have hst : c.sticky na.mode na.uid (T.at ej.node).uid = true := hSj.resolve_left v1
    unfold Cred.sticky Cred.root at hst
    rw [decide_eq_false hc0, Bool.false_or] at hst
    repeat first|(apply x1;apply r0;apply r0)|(apply x2;apply r0;(with_reducible assumption);apply r0)|apply w6|apply w7|apply wa|apply w5
    refine s_index tk rfl rfl rfl rfl (by omega) hget rfl ?_
    repeat first|(apply x1;apply r0;apply r0)|(apply x3;apply r0)|(apply x9;apply r0)
    refine tget_c hg.wf (by with_reducible assumption) ?_
    repeat (apply x1;apply r0;apply r0)
    refine s_alloc tk rfl rfl rfl (fun b24 hb24 => ?_); have hb := hb24; (try simp only [put_none_iff, prot_none_iff] at hb); (repeat obtain ⟨_, _, hb⟩ := hb)
    repeat first|(apply x1;apply r0;apply r0)|(apply x2;apply r0;(with_reducible repeat first|assumption|apply ps|apply q3|exact n1 ‹_› ‹_›);apply r0)|(apply xst;apply r0;(with_reducible repeat first|assumption|apply ps|apply q3|exact n1 ‹_› ‹_›);apply r0)|apply w4|apply w6|apply w7|apply w5
    refine s_bits rfl rfl rfl rfl ?_
    by_cases m1 : bitsR .and .i64 na.mode 512 = 0
    · repeat (apply x1;apply r0;apply r0)
      refine s_gsplit rfl rfl (fun v2 => ?_) (fun v2 => ?_)<;>first|replace v2:=not_t v2|replace v2:=not_f v2
      · exact absurd m1 v2
      repeat first|(apply gO;first|(apply x1;apply r0;apply r0)|apply w4|(apply w3;apply r0;apply r0)|(apply x6;apply r0;omega))|(apply gW;first|apply w7|(apply w9;apply r0)|apply wa)|apply w5|apply wg
      exact ⟨j + 1, by omega, by omega, (by repeat (first | exact Fr.sub_nil _ | refine Fr.sub_cons rfl ?_)), (by repeat first|exact s0|(apply su1;assumption))⟩
    rw [decide_eq_false m1, Bool.false_or] at hst
    repeat (apply x1;apply r0;apply r0)
    refine s_gsplit rfl rfl (fun v2 => ?_) (fun v2 => ?_)<;>first|replace v2:=not_t v2|replace v2:=not_f v2
    case refine_2 => exact absurd v2 m1
    by_cases m2 : na.uid = c.uid
    · repeat first|(apply x1;apply r0;apply r0)|(apply x2;apply r0;(with_reducible repeat first|assumption|apply q3|exact n1 ‹_› ‹_›);apply r0)|(apply x5;apply r0)
      refine s_gsplit rfl rfl (fun v3 => ?_) (fun v3 => ?_)<;>first|replace v3:=not_t v3|replace v3:=not_f v3
      · exact absurd m2 v3
      repeat first|(apply gO;first|(apply x1;apply r0;apply r0)|apply w4|(apply w3;apply r0;apply r0)|(apply x6;apply r0;omega))|(apply gW;first|apply w7|(apply w9;apply r0)|apply wa)|apply w5|apply wg
      exact ⟨j + 1, by omega, by omega, (by repeat (first | exact Fr.sub_nil _ | refine Fr.sub_cons rfl ?_)), (by repeat first|exact s0|(apply su1;assumption))⟩
    rw [decide_eq_false m2, Bool.false_or] at hst
    repeat first|(apply x1;apply r0;apply r0)|(apply x2;apply r0;(with_reducible repeat first|assumption|apply q3|exact n1 ‹_› ‹_›);apply r0)|(apply x5;apply r0)
    refine s_gsplit rfl rfl (fun v3 => ?_) (fun v3 => ?_)<;>first|replace v3:=not_t v3|replace v3:=not_f v3
    case refine_2 => exact absurd v3 m2
    repeat first|(apply x1;apply r0;apply r0)|(apply x2;apply r0;(with_reducible repeat first|assumption|apply q0|apply q3|exact n1 ‹_› ‹_›);apply r0)|(apply x5;apply r0)|apply w4|apply w5
    refine aw_cond rfl (fun v4 => ?_) (fun v4 => ?_)<;>first|replace v4:=not_t v4|replace v4:=not_f v4
    · exact absurd (of_decide_eq_true hst) v4
    repeat first|(apply x1;apply r0;apply r0)|apply w4|(apply x6;apply r0;omega)|apply w7|apply wa|apply w5|apply wg
    exact ⟨j + 1, by omega, by omega, (by repeat (first | exact Fr.sub_nil _ | refine Fr.sub_cons rfl ?_)), (by repeat first|exact s0|(apply su1;assumption))⟩
  | false =>
    have hgR := good_unlink hg c (T.resolve c fr false) []
    have hS := unlink_sticky hg htr c fr
    repeat first|(apply gO;first|(apply x1;apply r0;apply r0)|(apply x2;apply r0;(with_reducible assumption);apply r0)|(apply x9;apply r0)|apply w4)|(apply gW;first|apply w6|apply w7|(apply w9;apply r0))|apply w5
    refine unlink_c (op := []) hg hc (Nat.zero_le _) (by with_reducible assumption) ?_
    generalize T.unlinkF c (T.resolve c fr false) [] = R at hgR hS ⊢
    repeat first|(apply x1;apply r0;apply r0)|apply w4|apply w6|apply w7|apply w5
    refine aw_cond rfl (fun g3 => ?_) (fun g3 => ?_)<;>first|replace g3:=not_t g3|replace g3:=not_f g3
    · repeat first|(apply x1;apply r0;apply r0)|apply w4|apply w6|apply w7|apply wd|apply w5|apply we
      exact rt1 (H' := H) rfl rfl (.refl _) (by repeat first|assumption|(apply su1;assumption)) hK
    have g3' : R.2 = 0 := g3
    have hS' := hS g3'
    have h24 := hgR.wf.2.1
    repeat first|(apply x1;apply r0;apply r0)|apply w4|apply w6|apply w7|apply wa|apply wb|apply w5
    generalize hY : AHeap.put _ t _ = Y
    have yT : Rd Y t (encTab R.1) := by rw [← hY]; exact (by apply rd_eq;(focus apply q0);rfl)
    have yU : Rd Y u (encTab T) := by rw [← hY]; exact (by apply rd_eq;(focus with_reducible repeat first|assumption|exact q1 ‹_›|apply q3);rfl)
    have y8 : Rd Y b8 (encCred c) := by rw [← hY]; exact (by apply rd_eq;(focus with_reducible repeat first|assumption|apply q3);rfl)
    have ys : H.sub Y := by rw [← hY]; exact (by repeat first|assumption|(apply su1;assumption))
    clear hY
    refine aw_loop (fun k : Nat => k = 0 ∨ (k : Int) ≤ R.1.room) (fun k => [(8, .ptr b8 0), (14, .ptr t 0), (16, .ptr u 0), (18, .i ((k : Int) + 1))]) (fun _ => Y) (fun k => R.1.room.toNat - k) 0 (.inl rfl) (by repeat (first | exact Fr.sub_nil _ | refine Fr.sub_cons rfl ?_)) (AHeap.sub_refl _) ?_
    intro k hk
    repeat first|(apply x1;apply r0;apply r0)|(apply x9;apply r0)|apply w6|apply w7
    refine room_c (by with_reducible assumption) ?_
    repeat first|(apply x1;apply r0;apply r0)|apply w4|apply w5
    refine aw_cond rfl (fun c1 => ?_) (fun c1 => ?_)<;>first|replace c1:=of_decide_eq_true c1|replace c1:=of_decide_eq_false c1
    case refine_2 =>
      repeat first|(apply gO;first|(apply x1;apply r0;apply r0)|apply w4)|(apply gW;first|apply w6|apply w7|apply wd|apply wc)|apply w5|apply wf|apply wh
      exact rt1 (H' := H) rfl rfl (.refl _) (by repeat assumption) hK
    have c1' : (k : Int) + 1 ≤ R.1.room := by omega
    have hkk : (((k + 1 : Nat) : Int)) = (k : Int) + 1 := by omega
    have sb := (at_few hgR ((k : Int) + 1)).small
    have hSk := hS' ((k : Int) + 1)
    have hle := ents_len (T.at ((k : Int) + 1)).ents
    have hfew := (at_few hg ((k : Int) + 1)).1
    repeat first|(apply x1;apply r0;apply r0)|(apply x9;apply r0)|apply w6|apply w7|apply wa|apply wb|apply w5
    refine tget_c hg.wf (by with_reducible assumption) ?_
    repeat (apply x1;apply r0;apply r0)
    refine s_alloc tk rfl rfl rfl (fun b19 hb19 => ?_); have hb := hb19; (try simp only [put_none_iff, prot_none_iff] at hb); (repeat obtain ⟨_, _, hb⟩ := hb)
    repeat first|(apply x1;apply r0;apply r0)|(apply xst;apply r0;(apply ps);apply r0)|(apply x9;apply r0)|apply w4|apply w6|apply w7|apply w5
    refine tget_c hgR.wf (by with_reducible repeat first|assumption|apply q3|exact n1 ‹_› ‹_›) ?_
    repeat (apply x1;apply r0;apply r0)
    refine s_alloc tk rfl rfl rfl (fun b21 hb21 => ?_); have hb := hb21; (try simp only [put_none_iff, prot_none_iff] at hb); (repeat obtain ⟨_, _, hb⟩ := hb)
    repeat first|(apply x1;apply r0;apply r0)|(apply xst;apply r0;(apply ps);apply r0)|apply w4|apply w6|apply w7|apply wb|apply w5
    generalize hZ : AHeap.put _ b21 _ = Z
    have zT : Rd Z t (encTab R.1) := by rw [← hZ]; exact (by apply rd_eq;(focus with_reducible repeat first|assumption|apply q3|exact n1 ‹_› ‹_›);rfl)
    have zU : Rd Z u (encTab T) := by rw [← hZ]; exact (by apply rd_eq;(focus with_reducible repeat first|assumption|apply q3|exact n1 ‹_› ‹_›);rfl)
    have z8 : Rd Z b8 (encCred c) := by rw [← hZ]; exact (by apply rd_eq;(focus with_reducible repeat first|assumption|apply q3|exact n1 ‹_› ‹_›);rfl)
    have z19 : Rd Z b19 (encNode (T.at ((k : Int) + 1))) := by rw [← hZ]; exact (by apply rd_eq;(focus with_reducible repeat first|assumption|apply q0|apply q3);rfl)
    have z21 : Rd Z b21 (encNode (R.1.at ((k : Int) + 1))) := by rw [← hZ]; exact (by apply rd_eq;(focus apply q0);rfl)
    have zs : Y.sub Z := by rw [← hZ]; exact (by repeat first|exact s0|(apply su1;assumption))
    clear hZ
    generalize R.1.at ((k : Int) + 1) = nb at sb hSk z21 ⊢
    generalize T.at ((k : Int) + 1) = na at hSk hle hfew z19 ⊢
    refine aw_loop (fun j : Nat => j ≤ na.ents.length) (fun j => [(8, .ptr b8 0), (14, .ptr t 0), (16, .ptr u 0), (18, .i ((k : Int) + 1)), (19, .ptr b19 0), (21, .ptr b21 0), (23, .i (j : Int))]) (fun _ => Z) (fun j => na.ents.length - j) 0 (Nat.zero_le _) (by repeat (first | exact Fr.sub_nil _ | refine Fr.sub_cons rfl ?_)) (AHeap.sub_refl _) ?_
    intro j hj
    repeat first|(apply x1;apply r0;apply r0)|(apply x2;apply r0;(with_reducible assumption);apply r0)|apply w4|apply w6|apply w7|apply w5
    refine aw_cond rfl (fun c3 => ?_) (fun c3 => ?_)<;>first|replace c3:=of_decide_eq_true c3|replace c3:=of_decide_eq_false c3
    case refine_2 =>
      repeat first|(apply gO;first|(apply x1;apply r0;apply r0)|apply w4|(apply x6;apply r0;omega))|(apply gW;first|apply w7|apply wc)|apply w5|apply wg|apply wf|apply wh
      exact ⟨k + 1, by omega, by omega, (by repeat (first | exact Fr.sub_nil _ | refine Fr.sub_cons rfl ?_)), zs⟩
    have c3' : j < na.ents.length := by
      have h9 : (j : Int) < ((na.ents.map encEnt).length : Int) := c3
      rw [hle] at h9; omega
    have hSj := hSk _ (List.getElem_mem c3')
    generalize hej : na.ents[j] = ej at hSj
    have hget : (na.ents.map encEnt)[((j : Nat) : Int).toNat]? = some (encEnt ej) := by rw [← hej]; simp [c3']
    repeat first|apply w6|apply wa|apply wb|apply w5
    refine aw_prot [b19, b21] (allc (by with_reducible assumption) (allc (by with_reducible assumption) (allc0 _))) ?_
    refine aw_plan mixed (.take 0 (.take 1 (.take 2 (.take 3 (.take 4 (.take 5 (.take 6 (.take 8 (.take 9 (.take 10 (.take 11 (.take 12 (.take 13 (.one 7 (.take 14 .done))))))))))))))) (by kernel_rfl) ?_
    repeat first|(apply y1;apply r0;apply r0)|(apply y2;apply r0;apply r0;(with_reducible repeat first|assumption|apply pg|exact mm0|apply mm1);apply r0)
    refine d_index rfl rfl rfl rfl rfl rfl (by omega) hget rfl ?_
    repeat first|(apply y1;apply r0;apply r0)|(apply y2;apply r0;apply r0;(with_reducible repeat first|assumption|apply pg|exact mm0);apply r0)|(apply y3;apply r0;apply r0)
    refine d_index rfl rfl rfl rfl rfl rfl (by omega) hget rfl ?_
    repeat first|(apply x9;apply r0)|(apply y1;apply r0;apply r0)|(apply y4;apply r0)|(apply y3;apply r0;apply r0)
    refine find_c sb ?_
    repeat first|apply w4|(apply y1;apply r0;apply r0)|apply y0
    refine prot_done ?_
    repeat apply w5
    refine aw_cond rfl (fun v1 => ?_) (fun v1 => ?_)<;>first|replace v1:=of_decide_eq_true v1|replace v1:=of_decide_eq_false v1
    · repeat first|(apply gO;first|(apply x1;apply r0;apply r0)|apply w4|(apply x6;apply r0;omega))|(apply gW;first|apply w7|apply wc)|apply w5|apply wf|apply wh
      exact ⟨j + 1, by omega, by omega, (by repeat (first | exact Fr.sub_nil _ | refine Fr.sub_cons rfl ?_)), s0⟩
    have hst : c.sticky na.mode na.uid (T.at ej.node).uid = true := hSj.resolve_left v1
    unfold Cred.sticky Cred.root at hst
    rw [decide_eq_false hc0, Bool.false_or] at hst
    repeat first|(apply x1;apply r0;apply r0)|(apply x2;apply r0;(with_reducible assumption);apply r0)|apply w6|apply w7|apply wa|apply w5
    refine s_index tk rfl rfl rfl rfl (by omega) hget rfl ?_
    repeat first|(apply x1;apply r0;apply r0)|(apply x3;apply r0)|(apply x9;apply r0)
    refine tget_c hg.wf (by with_reducible assumption) ?_
    repeat (apply x1;apply r0;apply r0)
    refine s_alloc tk rfl rfl rfl (fun b24 hb24 => ?_); have hb := hb24; (try simp only [put_none_iff, prot_none_iff] at hb); (repeat obtain ⟨_, _, hb⟩ := hb)
    repeat first|(apply x1;apply r0;apply r0)|(apply x2;apply r0;(with_reducible repeat first|assumption|apply ps|apply q3|exact n1 ‹_› ‹_›);apply r0)|(apply xst;apply r0;(with_reducible repeat first|assumption|apply ps|apply q3|exact n1 ‹_› ‹_›);apply r0)|apply w4|apply w6|apply w7|apply w5
    refine s_bits rfl rfl rfl rfl ?_
    by_cases m1 : bitsR .and .i64 na.mode 512 = 0
    · repeat (apply x1;apply r0;apply r0)
      refine s_gsplit rfl rfl (fun v2 => ?_) (fun v2 => ?_)<;>first|replace v2:=not_t v2|replace v2:=not_f v2
      · exact absurd m1 v2
      repeat first|(apply gO;first|(apply x1;apply r0;apply r0)|apply w4|(apply w3;apply r0;apply r0)|(apply x6;apply r0;omega))|(apply gW;first|apply w7|(apply w9;apply r0)|apply wa)|apply w5|apply wg
      exact ⟨j + 1, by omega, by omega, (by repeat (first | exact Fr.sub_nil _ | refine Fr.sub_cons rfl ?_)), (by repeat first|exact s0|(apply su1;assumption))⟩
    rw [decide_eq_false m1, Bool.false_or] at hst
    repeat (apply x1;apply r0;apply r0)
    refine s_gsplit rfl rfl (fun v2 => ?_) (fun v2 => ?_)<;>first|replace v2:=not_t v2|replace v2:=not_f v2
    case refine_2 => exact absurd v2 m1
    by_cases m2 : na.uid = c.uid
    · repeat first|(apply x1;apply r0;apply r0)|(apply x2;apply r0;(with_reducible repeat first|assumption|apply q3|exact n1 ‹_› ‹_›);apply r0)|(apply x5;apply r0)
      refine s_gsplit rfl rfl (fun v3 => ?_) (fun v3 => ?_)<;>first|replace v3:=not_t v3|replace v3:=not_f v3
      · exact absurd m2 v3
      repeat first|(apply gO;first|(apply x1;apply r0;apply r0)|apply w4|(apply w3;apply r0;apply r0)|(apply x6;apply r0;omega))|(apply gW;first|apply w7|(apply w9;apply r0)|apply wa)|apply w5|apply wg
      exact ⟨j + 1, by omega, by omega, (by repeat (first | exact Fr.sub_nil _ | refine Fr.sub_cons rfl ?_)), (by repeat first|exact s0|(apply su1;assumption))⟩
    rw [decide_eq_false m2, Bool.false_or] at hst
    repeat first|(apply x1;apply r0;apply r0)|(apply x2;apply r0;(with_reducible repeat first|assumption|apply q3|exact n1 ‹_› ‹_›);apply r0)|(apply x5;apply r0)
    refine s_gsplit rfl rfl (fun v3 => ?_) (fun v3 => ?_)<;>first|replace v3:=not_t v3|replace v3:=not_f v3
    case refine_2 => exact absurd v3 m2
    repeat first|(apply x1;apply r0;apply r0)|(apply x2;apply r0;(with_reducible repeat first|assumption|apply q0|apply q3|exact n1 ‹_› ‹_›);apply r0)|(apply x5;apply r0)|apply w4|apply w5
    refine aw_cond rfl (fun v4 => ?_) (fun v4 => ?_)<;>first|replace v4:=not_t v4|replace v4:=not_f v4
    · exact absurd (of_decide_eq_true hst) v4
    repeat first|(apply x1;apply r0;apply r0)|apply w4|(apply x6;apply r0;omega)|apply w7|apply wa|apply w5|apply wg
    exact ⟨j + 1, by omega, by omega, (by repeat (first | exact Fr.sub_nil _ | refine Fr.sub_cons rfl ?_)), (by repeat first|exact s0|(apply su1;assumption))⟩
end Abs
end Go.Proofs.Ytpmnfbgnlanpoaa
