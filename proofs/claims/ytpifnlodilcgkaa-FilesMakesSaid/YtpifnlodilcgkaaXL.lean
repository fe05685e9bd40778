import Derived.Test.YtpifnlodilcgkaaXA
import Derived.Test.YtpifnlodilcgkaaV4
set_option linter.unusedVariables false
namespace Go.Proofs.Ytpifnlodilcgkaa
namespace Abs
set_option linter.unusedSimpArgs false
set_option maxRecDepth 10000
set_option maxHeartbeats 2000000
attribute [local irreducible] AOps AW AP ACalls thenQ inBlk noGoto

/-! ### what is told of a node -/
structure Stat where
  node : Int
  kind : Int
  mode : Int
  uid : Int
  gid : Int
  links : Int
  size : Int
def encSt (s : Stat) : List AVal := [.i s.node, .i s.kind, .i s.mode, .i s.uid, .i s.gid, .i s.links, .i s.size]
def Stat.zero : Stat := ⟨0, 0, 0, 0, 0, 0, 0⟩
def Tab.stat (T : Tab) (i : Int) : Stat := if T.has i = true then ⟨i, (T.at i).kind, (T.at i).mode, (T.at i).uid, (T.at i).gid, T.links i, (T.at i).size⟩ else Stat.zero
def Tab.look (T : Tab) (c : Cred) (path : ByteArray) (follow : Bool) : Stat × Int :=
  if (T.resolve c path follow).2 = 0 then (if T.has (T.resolve c path follow).1.node = true then (T.stat (T.resolve c path follow).1.node, 0) else (Stat.zero, 2))
  else (Stat.zero, (T.resolve c path follow).2)
theorem has_pos {T : Tab} {i : Int} (h : T.has i = true) : ¬ i = 0 := by
  unfold Tab.has at h
  simp only [Bool.and_eq_true, decide_eq_true_eq] at h
  have := h.1.1
  omega
theorem statNe {a : Int} (h : ¬ a = 0) {b c d e f g : Int} : (decide (a = 0) && (decide (b = 0) && (decide (c = 0) && (decide (d = 0) && (decide (e = 0) && (decide (f = 0) && (decide (g = 0) && true))))))) = false := by
  rw [decide_eq_false h]; rfl
theorem of_c {t : Nat} {T : Tab} (hg : T.good) {i : Int} {H : AHeap} (hT : Rd H t (encTab T)) {K : AVal → AHeap → Prop} (hK : K (.tup [.agg (encSt (T.stat i)), .b (T.has i)]) H) :
    ACalls Try.prog 85 [.ptr t 0, .i i] H K := by
  refine acalls_body Try.func85 rfl rfl rfl ?_
  have hw := hg.wf
  unfold Tab.stat at hK
  repeat first|apply w6|apply w7
  refine s_alloc tk rfl rfl rfl (fun b4 hb4 => ?_); have hb := hb4; (try simp only [put_none_iff, prot_none_iff] at hb); (repeat obtain ⟨_, _, hb⟩ := hb)
  repeat first|(apply x1;apply r0;apply r0)|(apply x9;apply r0)|apply w4|apply w6|apply w7|apply w5
  refine tget_c hw (by with_reducible repeat first|assumption|apply q3|exact n1 ‹_› ‹_›) ?_
  cases hh : T.has i with
  | false =>
    rw [hh, if_neg (by decide)] at hK
    repeat (apply x1;apply r0;apply r0)
    refine s_alloc tk rfl rfl rfl (fun b6 hb6 => ?_); have hb := hb6; (try simp only [put_none_iff, prot_none_iff] at hb); (repeat obtain ⟨_, _, hb⟩ := hb)
    repeat first|(apply gO;first|(apply x1;apply r0;apply r0)|(apply xst;apply r0;(with_reducible repeat first|assumption|apply ps|apply gp);apply r0)|(apply xbd;apply r0)|apply w4)|(apply gW;first|apply w6|apply w7|(apply w8;apply r0)|apply wd)|apply w5|apply we
    exact rt2c (H' := H) rfl rfl (by apply q0) rfl (by rfl) rfl (by exact .pair (wk_agg rfl) (.refl _)) (by repeat first|exact s0|(apply su1;assumption)) hK
  | true =>
    rw [hh, if_pos rfl] at hK
    repeat (apply x1;apply r0;apply r0)
    refine s_alloc tk rfl rfl rfl (fun b6 hb6 => ?_); have hb := hb6; (try simp only [put_none_iff, prot_none_iff] at hb); (repeat obtain ⟨_, _, hb⟩ := hb)
    repeat first|(apply gO;first|(apply x1;apply r0;apply r0)|(apply xst;apply r0;(apply ps);apply r0)|apply w4)|(apply gW;first|apply w6|apply w7|(apply w9;apply r0)|apply wa)|apply w5
    refine aw_prot [b6, t] (allc (by apply q0) (allc (by with_reducible repeat first|assumption|apply q3|exact n1 ‹_› ‹_›) (allc0 _))) ?_
    refine aw_plan mixed (.take 0 (.take 1 (.take 2 (.take 3 (.take 4 (.take 5 (.take 6 (.take 7 (.take 8 (.take 9 (.take 10 (.take 12 (.one 11 (.one 13 (.one 14 (.one 15 (.take 16 .done))))))))))))))))) (by kernel_rfl) ?_
    repeat first|(apply x9;apply r0)|(apply y1;apply r0;apply r0)|(apply y4;apply r0)|(apply y2;apply r0;apply r0;(with_reducible repeat first|apply q0|apply pg|exact mm0);apply r0)
    refine links_c hw (by with_reducible repeat first|assumption|apply q4|apply q3|exact n1 ‹_› ‹_›) ?_
    repeat first|(apply x9;apply r0)|apply w4|(apply y4;apply r0)
    refine size_c ?_
    repeat first|(apply xst;apply r0;(with_reducible repeat first|assumption|apply ps|apply gp|apply gq|exact n3 ‹_› ‹_›|apply nm1|exact nm0);apply r0)|(apply xbd;apply r0)|apply w4|(apply y1;apply r0;apply r0)|apply y0|(apply y4;apply r0)
    refine prot_done_put (by simp only [List.mem_cons,List.not_mem_nil,or_false,not_or]; first|exact (by first|assumption|exact n1 ‹_› ‹_›|exact n2 ‹_› ‹_›|exact n3 ‹_› ‹_›|exact n4 ‹_› ‹_›)|exact ⟨(by first|assumption|exact n1 ‹_› ‹_›|exact n2 ‹_› ‹_›|exact n3 ‹_› ‹_›|exact n4 ‹_› ‹_›),(by first|assumption|exact n1 ‹_› ‹_›|exact n2 ‹_› ‹_›|exact n3 ‹_› ‹_›|exact n4 ‹_› ‹_›)⟩|exact ⟨(by first|assumption|exact n1 ‹_› ‹_›|exact n2 ‹_› ‹_›|exact n3 ‹_› ‹_›|exact n4 ‹_› ‹_›),(by first|assumption|exact n1 ‹_› ‹_›|exact n2 ‹_› ‹_›|exact n3 ‹_› ‹_›|exact n4 ‹_› ‹_›),(by first|assumption|exact n1 ‹_› ‹_›|exact n2 ‹_› ‹_›|exact n3 ‹_› ‹_›|exact n4 ‹_› ‹_›)⟩) ?_
    repeat first|apply wd|apply w5
    exact rt2c (H' := H) rfl rfl (by apply q0) rfl (by rfl) rfl (by exact .pair (wk_agg rfl) (.refl _)) (by repeat first|exact s0|(apply su1;assumption)) hK
theorem found_c {t : Nat} {T : Tab} (hg : T.good) {c : Cred} (hc : c.small) {path : ByteArray} {follow : Bool} {H : AHeap} (hT : Rd H t (encTab T)) {K : AVal → AHeap → Prop}
    (hK : K (.tup [.agg (encSt (T.look c path follow).1), .i (T.look c path follow).2]) H) : ACalls Try.prog 49 [.ptr t 0, .agg (encCred c), .s path, .b follow] H K := by
  refine acalls_body Try.func49 rfl rfl rfl ?_
  unfold Tab.look at hK
  repeat first|apply w6|apply w7
  refine s_box rfl rfl rfl (fun b5 hb5 => ?_); have hb := hb5; (try simp only [put_none_iff, prot_none_iff] at hb); (repeat obtain ⟨_, _, hb⟩ := hb)
  skip
  refine s_alloc tk rfl rfl rfl (fun b8 hb8 => ?_); have hb := hb8; (try simp only [put_none_iff, prot_none_iff] at hb); (repeat obtain ⟨_, _, hb⟩ := hb)
  repeat first|(apply x1;apply r0;apply r0)|(apply x2;apply r0;(with_reducible repeat first|assumption|apply q0|apply q3);apply r0)|(apply x9;apply r0)|apply w4|apply w6|apply w7|apply w5
  refine resolve_c hg hc (by with_reducible repeat first|assumption|apply q3|exact n1 ‹_› ‹_›) ?_
  generalize T.resolve c path follow = va at hK ⊢
  repeat (apply x1;apply r0;apply r0)
  refine s_alloc tk rfl rfl rfl (fun b10 hb10 => ?_); have hb := hb10; (try simp only [put_none_iff, prot_none_iff] at hb); (repeat obtain ⟨_, _, hb⟩ := hb)
  repeat first|(apply x1;apply r0;apply r0)|(apply xst;apply r0;(apply ps);apply r0)|apply w4|apply w6|apply w7|apply w5
  refine aw_cond rfl (fun g1 => ?_) (fun g1 => ?_)<;>first|replace g1:=not_t g1|replace g1:=not_f g1
  · rw [if_neg g1] at hK
    repeat first|(apply gO;first|(apply x1;apply r0;apply r0)|(apply xst;apply r0;(with_reducible repeat first|assumption|apply ps|apply gp);apply r0)|(apply xbd;apply r0)|apply w4)|(apply gW;first|apply w6|apply w7|apply wd)|apply w5|apply we
    exact rt2c (H' := H) rfl rfl (by apply q0) rfl (by rfl) rfl (by exact .pair (wk_agg rfl) (.refl _)) (by repeat first|exact s0|(apply su1;assumption)) hK
  have g1' : va.2 = 0 := g1
  rw [if_pos g1'] at hK
  repeat first|(apply x1;apply r0;apply r0)|(apply x2;apply r0;(apply q0);apply r0)|(apply x9;apply r0)|apply w6|apply w7|apply wa|apply w5
  refine of_c hg (by with_reducible repeat first|assumption|apply q3|exact n1 ‹_› ‹_›) ?_
  repeat (apply x1;apply r0;apply r0)
  refine s_alloc tk rfl rfl rfl (fun b12 hb12 => ?_); have hb := hb12; (try simp only [put_none_iff, prot_none_iff] at hb); (repeat obtain ⟨_, _, hb⟩ := hb)
  repeat first|(apply gO;first|(apply x1;apply r0;apply r0)|(apply x2;apply r0;(with_reducible repeat first|apply q0|apply ps);apply r0)|(apply xst;apply r0;(with_reducible repeat first|apply q0|apply ps);apply r0)|(apply xbd;apply r0)|apply w4)|(apply gW;first|apply w6|apply w7)|apply w5
  cases hh : T.has va.1.node with
  | false =>
    rw [hh, if_neg (by decide)] at hK
    have hz : T.stat va.1.node = Stat.zero := by unfold Tab.stat; rw [hh, if_neg (by decide)]
    rw [hz]
    refine s_eqagg (r := true) tk rfl (.inl rfl) rfl rfl rfl (by kernel_rfl) rfl ?_
    repeat first|(apply gO;first|(apply x1;apply r0;apply r0)|(apply x2;apply r0;(with_reducible repeat first|assumption|apply q0|apply ps|apply gp);apply r0)|(apply xst;apply r0;(with_reducible repeat first|assumption|apply q0|apply ps|apply gp);apply r0)|apply w4)|(apply gW;first|apply w6|apply w7|(apply w8;apply r0)|apply wd)|apply w5|apply we
    exact rt2c (H' := H) rfl rfl (by apply q0) rfl (by rfl) rfl (by exact .pair (wk_agg rfl) (.refl _)) (by repeat first|exact s0|(apply su1;assumption)) hK
  | true =>
    rw [hh, if_pos rfl] at hK
    have hz : T.stat va.1.node = ⟨va.1.node, (T.at va.1.node).kind, (T.at va.1.node).mode, (T.at va.1.node).uid, (T.at va.1.node).gid, T.links va.1.node, (T.at va.1.node).size⟩ := by unfold Tab.stat; rw [hh, if_pos rfl]
    have hne := has_pos hh
    rw [hz] at hK ⊢
    refine s_eqagg (r := false) tk rfl (.inl rfl) rfl rfl rfl (by kernel_rfl) (by exact congrArg some (statNe hne)) ?_
    repeat first|(apply gO;first|(apply x1;apply r0;apply r0)|(apply x2;apply r0;(with_reducible repeat first|assumption|apply q0|apply ps|apply gp);apply r0)|(apply xst;apply r0;(with_reducible repeat first|assumption|apply q0|apply ps|apply gp);apply r0)|apply w4)|(apply gW;first|apply w6|apply w7|(apply w9;apply r0)|apply wa|apply wd)|apply w5
    exact rt2c (H' := H) rfl rfl (by apply q0) rfl (by rfl) rfl (by exact .pair (wk_agg rfl) (.refl _)) (by repeat first|exact s0|(apply su1;assumption)) hK
theorem llstat_c {t : Nat} {T : Tab} (hg : T.good) {c : Cred} (hc : c.small) {path : ByteArray} {H : AHeap} (hT : Rd H t (encTab T)) {K : AVal → AHeap → Prop}
    (hK : K (.tup [.agg (encSt (T.look c path false).1), .i (T.look c path false).2]) H) : ACalls Try.prog 21 [.ptr t 0, .agg (encCred c), .s path] H K := by
  refine acalls_body Try.func21 rfl rfl rfl ?_
  repeat first|apply w6|apply w7
  refine s_box rfl rfl rfl (fun b5 hb5 => ?_); have hb := hb5; (try simp only [put_none_iff, prot_none_iff] at hb); (repeat obtain ⟨_, _, hb⟩ := hb)
  skip
  refine s_alloc tk rfl rfl rfl (fun b6 hb6 => ?_); have hb := hb6; (try simp only [put_none_iff, prot_none_iff] at hb); (repeat obtain ⟨_, _, hb⟩ := hb)
  repeat first|(apply x1;apply r0;apply r0)|(apply x2;apply r0;(with_reducible repeat first|assumption|apply q0|apply q3);apply r0)|(apply x9;apply r0)|apply w4|apply w6|apply w7|apply w5
  refine found_c hg hc (by with_reducible repeat first|assumption|apply q3|exact n1 ‹_› ‹_›) ?_
  repeat first|(apply x1;apply r0;apply r0)|(apply xst;apply r0;(apply ps);apply r0)|apply w4|apply wd|apply w5
  exact rt2c (H' := H) rfl rfl (by apply q0) rfl (by rfl) rfl (by exact .pair (wk_agg rfl) (.refl _)) (by repeat first|exact s0|(apply su1;assumption)) hK
def Tab.list (T : Tab) (c : Cred) (path : ByteArray) : List ByteArray × Int :=
  if ¬ (T.look c path true).2 = 0 then ([], (T.look c path true).2) else if ¬ (T.look c path true).1.kind = 2 then ([], 20) else if T.can c (T.look c path true).1.node 4 = false then ([], 13)
  else (sortB (entNames (T.at (T.look c path true).1.node).ents), 0)
end Abs
end Go.Proofs.Ytpifnlodilcgkaa
