import Derived.Test.YtkopeigfjjbajaaGreatXL
import Derived.Test.YtkopeigfjjbajaaGreatXD
import Derived.Test.YtkopeigfjjbajaaGreatZ3
import Derived.Test.YtkopeigfjjbajaaGreatM7
set_option linter.unusedVariables false
namespace Go.Proofs.YtkopeigfjjbajaaGreat
namespace Abs
set_option linter.unusedSimpArgs false
set_option maxRecDepth 10000
set_option maxHeartbeats 2000000
attribute [local irreducible] AOps AW AP ACalls thenQ inBlk noGoto

/-! ### the document's chapter 12 -/
theorem found_has {T : Tab} (hg : T.good) (ht : T.tree) {c : Cred} {path : ByteArray} {fo : Bool} (h : (T.resolve c path fo).2 = 0) (hn : ¬ (T.resolve c path fo).1.node = 0) : T.has (T.resolve c path fo).1.node = true := by
  rcases resolve_srch hg ht c path fo with ⟨h1, _⟩ | ⟨_, h2, _, h3⟩
  · exact absurd h h1
  · rcases h3 with ⟨_, h4⟩ | ⟨_, _, h5, _⟩
    · rw [← h4]; exact has_kind'.2 (by rw [h2]; decide)
    · rw [← h5] at hn ⊢
      exact ht.ents _ _ (find_ent hn)
theorem look_node {T : Tab} (hg : T.good) (ht : T.tree) {c : Cred} {path : ByteArray} {fo : Bool} : T.look c path fo = if (T.resolve c path fo).2 = 0 then (if (T.resolve c path fo).1.node = 0 then (Stat.zero, 2) else (T.stat (T.resolve c path fo).1.node, 0)) else (Stat.zero, (T.resolve c path fo).2) := by
  unfold Tab.look
  by_cases h : (T.resolve c path fo).2 = 0
  · rw [if_pos h, if_pos h]
    by_cases hn : (T.resolve c path fo).1.node = 0
    · rw [if_pos hn, hn]
      cases hh : T.has 0 with
      | false => rfl
      | true => exact absurd rfl (has_pos hh)
    · rw [if_neg hn, if_pos (found_has hg ht h hn)]
  · rw [if_neg h, if_neg h]
theorem rof_c {T : Tab} {L : List Node} (ht : Tells T L) {i : Int} {H : AHeap} {K : AVal → AHeap → Prop} (hK : K (.agg (encSt (T.stat i))) H) :
    ACalls Tryz.prog 18 [.agg (encT L), .i i] H K := by
  refine acalls_body Tryz.func18 rfl rfl rfl ?_
  unfold Tab.stat at hK
  have hk := at_kind (T := T) i
  repeat first|apply w6|apply w7
  refine s_box rfl rfl rfl (fun b2 hb2 => ?_); have hb := hb2; (try simp only [put_none_iff, prot_none_iff] at hb); (repeat obtain ⟨_, _, hb⟩ := hb)
  skip
  refine s_alloc tk rfl rfl rfl (fun b4 hb4 => ?_); have hb := hb4; (try simp only [put_none_iff, prot_none_iff] at hb); (repeat obtain ⟨_, _, hb⟩ := hb)
  repeat first|(apply x1;apply r0;apply r0)|(apply x2;apply r0;(with_reducible repeat first|assumption|apply q0|apply q3);apply r0)|(apply x9;apply r0)|apply w4|apply w6|apply w7|apply w5
  refine rget_c ht.len ?_
  rw [ht.get]
  skip
  refine s_alloc tk rfl rfl rfl (fun b5 hb5 => ?_); have hb := hb5; (try simp only [put_none_iff, prot_none_iff] at hb); (repeat obtain ⟨_, _, hb⟩ := hb)
  repeat first|(apply x1;apply r0;apply r0)|(apply x2;apply r0;(with_reducible repeat first|apply q0|apply ps);apply r0)|(apply xst;apply r0;(with_reducible repeat first|apply q0|apply ps);apply r0)|apply w4|apply w6|apply w7|apply w5
  refine aw_cond rfl (fun g1 => ?_) (fun g1 => ?_)<;>first|replace g1:=of_decide_eq_true g1|replace g1:=of_decide_eq_false g1
  · rw [hk.1 g1, if_neg (by decide)] at hK
    repeat first|(apply gO;first|(apply xst;apply r0;(with_reducible repeat first|assumption|apply ps|apply gp);apply r0)|(apply xbd;apply r0)|apply w4)|(apply gW;first|apply w6|apply w7|apply wd)|apply w5|apply we
    exact rt1c (H' := H) rfl rfl (by apply q0) rfl (by rfl) (by exact wk_agg rfl) (by repeat first|exact s0|(apply su1;assumption)) hK
  have hh : T.has i = true := by
    cases hq : T.has i with
    | true => rfl
    | false => exact absurd (hk.2 hq) g1
  rw [hh, if_pos rfl] at hK
  repeat first|apply w6|apply wa|apply w5
  refine aw_prot [b2, b5] (allc (by with_reducible repeat first|assumption|apply q0|apply q3) (allc (by apply q0) (allc0 _))) ?_
  refine aw_plan mixed (.take 0 (.take 1 (.take 2 (.take 3 (.take 4 (.take 5 (.take 6 (.take 7 (.take 8 (.take 9 (.take 10 (.take 12 (.one 11 (.one 13 (.one 14 (.one 15 .done)))))))))))))))) (by kernel_rfl) ?_
  repeat first|(apply x9;apply r0)|(apply y1;apply r0;apply r0)|(apply y4;apply r0)|(apply y2;apply r0;apply r0;(with_reducible repeat first|assumption|apply q0|apply pg|apply q3|exact mm0|apply mm1);apply r0)
  refine rlinks_c (l_small ht.good.wf ht.rel) ?_
  rw [show (((rtells L i L.length).length : Nat) : Int) = T.links i from l_links ht.good.wf ht.rel i]
  repeat first|(apply x9;apply r0)|apply w4|(apply y4;apply r0)
  refine rsize_c ?_
  repeat first|(apply xst;apply r0;(with_reducible repeat first|assumption|apply ps|apply gp|apply gq|apply nm1|exact nm0);apply r0)|(apply xbd;apply r0)|apply w4|apply y0|(apply y4;apply r0)
  refine prot_done_put (by simp only [List.mem_cons,List.not_mem_nil,or_false,not_or]; first|exact (by first|assumption|exact n1 ‹_› ‹_›|exact n2 ‹_› ‹_›|exact n3 ‹_› ‹_›|exact n4 ‹_› ‹_›)|exact ⟨(by first|assumption|exact n1 ‹_› ‹_›|exact n2 ‹_› ‹_›|exact n3 ‹_› ‹_›|exact n4 ‹_› ‹_›),(by first|assumption|exact n1 ‹_› ‹_›|exact n2 ‹_› ‹_›|exact n3 ‹_› ‹_›|exact n4 ‹_› ‹_›)⟩|exact ⟨(by first|assumption|exact n1 ‹_› ‹_›|exact n2 ‹_› ‹_›|exact n3 ‹_› ‹_›|exact n4 ‹_› ‹_›),(by first|assumption|exact n1 ‹_› ‹_›|exact n2 ‹_› ‹_›|exact n3 ‹_› ‹_›|exact n4 ‹_› ‹_›),(by first|assumption|exact n1 ‹_› ‹_›|exact n2 ‹_› ‹_›|exact n3 ‹_› ‹_›|exact n4 ‹_› ‹_›)⟩) ?_
  repeat first|apply wd|apply w5
  exact rt1c (H' := H) rfl rfl (by apply q0) rfl (by rfl) (by exact wk_agg rfl) (by repeat first|exact s0|(apply su1;assumption)) hK
theorem rstat_c {T : Tab} {L : List Node} (ht : Tells T L) (htr : T.tree) {c : Cred} (hc : c.small) {path : ByteArray} (hp : path.size ≤ 16777200) {follow : Bool} {H : AHeap} {K : AVal → AHeap → Prop}
    (hK : K (.tup [.agg (encSt (T.look c path follow).1), .i (T.look c path follow).2]) H) : ACalls Tryz.prog 15 [.agg (encT L), .agg (encCred c), .s path, .b follow] H K := by
  refine acalls_body Tryz.func15 rfl rfl rfl ?_
  rw [look_node ht.good htr] at hK
  repeat first|apply w6|apply w7
  refine s_box rfl rfl rfl (fun b4 hb4 => ?_); have hb := hb4; (try simp only [put_none_iff, prot_none_iff] at hb); (repeat obtain ⟨_, _, hb⟩ := hb)
  skip
  refine s_box rfl rfl rfl (fun b5 hb5 => ?_); have hb := hb5; (try simp only [put_none_iff, prot_none_iff] at hb); (repeat obtain ⟨_, _, hb⟩ := hb)
  skip
  refine s_alloc tk rfl rfl rfl (fun b8 hb8 => ?_); have hb := hb8; (try simp only [put_none_iff, prot_none_iff] at hb); (repeat obtain ⟨_, _, hb⟩ := hb)
  repeat first|(apply x1;apply r0;apply r0)|(apply x2;apply r0;(with_reducible repeat first|assumption|apply q0|apply q3);apply r0)|(apply x9;apply r0)|apply w4|apply w6|apply w7|apply w5
  refine rresolve_c ht hc hp ?_
  generalize T.resolve c path follow = va at hK ⊢
  repeat (apply x1;apply r0;apply r0)
  refine s_alloc tk rfl rfl rfl (fun b10 hb10 => ?_); have hb := hb10; (try simp only [put_none_iff, prot_none_iff] at hb); (repeat obtain ⟨_, _, hb⟩ := hb)
  repeat first|(apply x1;apply r0;apply r0)|(apply xst;apply r0;(apply ps);apply r0)|apply w4|apply w6|apply w7|apply w5
  refine aw_cond rfl (fun g1 => ?_) (fun g1 => ?_)<;>first|replace g1:=not_t g1|replace g1:=not_f g1
  · rw [if_neg g1] at hK
    repeat first|(apply gO;first|(apply x1;apply r0;apply r0)|(apply xst;apply r0;(with_reducible repeat first|assumption|apply ps|apply gp);apply r0)|(apply xbd;apply r0)|apply w4)|(apply gW;first|apply w6|apply w7|apply wd)|apply w5|apply we
    exact rt2c (H' := H) rfl rfl (by apply q0) rfl (by rfl) rfl (by exact .pair (wk_agg rfl) (.refl _)) (by repeat first|exact s0|(apply su1;assumption)) hK
  have g1' : va.2 = 0 := g1
  rw [if_pos g1'] at hK
  repeat first|(apply x1;apply r0;apply r0)|(apply x2;apply r0;(apply q0);apply r0)|apply w4|apply w6|apply w7|apply wa|apply w5
  refine aw_cond rfl (fun g2 => ?_) (fun g2 => ?_)<;>first|replace g2:=of_decide_eq_true g2|replace g2:=of_decide_eq_false g2
  · rw [if_pos g2] at hK
    repeat first|(apply gO;first|(apply x1;apply r0;apply r0)|(apply xst;apply r0;(with_reducible repeat first|assumption|apply ps|apply gp);apply r0)|(apply xbd;apply r0)|apply w4)|(apply gW;first|apply w6|apply w7|apply wd)|apply w5|apply we
    exact rt2c (H' := H) rfl rfl (by apply q0) rfl (by rfl) rfl (by exact .pair (wk_agg rfl) (.refl _)) (by repeat first|exact s0|(apply su1;assumption)) hK
  rw [if_neg g2] at hK
  repeat first|(apply x1;apply r0;apply r0)|(apply x2;apply r0;(with_reducible repeat first|assumption|apply q0|apply q3);apply r0)|(apply x9;apply r0)|apply w6|apply w7|apply wa|apply w5
  refine rof_c ht ?_
  repeat first|(apply x1;apply r0;apply r0)|(apply xst;apply r0;(with_reducible repeat first|assumption|apply ps|apply gp);apply r0)|apply w4|apply wd|apply w5
  exact rt2c (H' := H) rfl rfl (by apply q0) rfl (by rfl) rfl (by exact .pair (wk_agg rfl) (.refl _)) (by repeat first|exact s0|(apply su1;assumption)) hK
theorem l_is {T : Tab} {L : List Node} (ht : Tells T L) (i : Int) : ris L i = T.has i := by
  have hg := ht.get i
  have hk := at_kind (T := T) i
  unfold rget at hg
  unfold ris
  by_cases h : 1 ≤ i ∧ i ≤ L.length
  · rw [if_pos h] at hg
    rw [hg, decide_eq_true h.1, decide_eq_true h.2, Bool.true_and, Bool.true_and]
    cases hh : T.has i with
    | false => rw [decide_eq_true (hk.2 hh)]; rfl
    | true => rw [decide_eq_false (fun e => by rw [hk.1 e] at hh; cases hh)]; rfl
  · rw [if_neg h] at hg
    have hh : T.has i = false := hk.1 (by rw [← hg]; rfl)
    rw [hh]
    by_cases h1 : 1 ≤ i
    · rw [decide_eq_false (show ¬ i ≤ (L.length : Int) from fun h2 => h ⟨h1, h2⟩), Bool.and_false, Bool.false_and]
    · rw [decide_eq_false h1, Bool.false_and, Bool.false_and]
theorem look_kind {T : Tab} {c : Cred} {path : ByteArray} {fo : Bool} (h : (T.look c path fo).2 = 0) : ∃ i, T.has i = true ∧ T.look c path fo = (T.stat i, 0) ∧ (T.stat i).node = i ∧ (T.stat i).kind = (T.at i).kind ∧ (T.stat i).links = T.links i ∧ (T.resolve c path fo).2 = 0 ∧ (T.resolve c path fo).1.node = i := by
  unfold Tab.look at h ⊢
  by_cases h1 : (T.resolve c path fo).2 = 0
  · rw [if_pos h1] at h ⊢
    cases h2 : T.has (T.resolve c path fo).1.node with
    | false => rw [h2, if_neg (by decide)] at h; exact absurd h (by decide)
    | true =>
      rw [if_pos rfl]
      refine ⟨_, h2, rfl, ?_, ?_, ?_, h1, rfl⟩ <;> (unfold Tab.stat; rw [if_pos h2])
  · rw [if_neg h1] at h
    exact absurd h h1
end Abs
end Go.Proofs.YtkopeigfjjbajaaGreat
