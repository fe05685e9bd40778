import Derived.Test.YtbldnaflffmddaaJN
import Derived.Test.YtbldnaflffmddaaJH
set_option linter.unusedVariables false
namespace Go.Proofs.Ytbldnaflffmddaa
namespace Abs
set_option linter.unusedSimpArgs false
set_option maxRecDepth 10000
set_option maxHeartbeats 2000000
attribute [local irreducible] AOps AW AP ACalls thenQ inBlk noGoto

/-! ### package walk: See -/
def encStt (node kind c3 c4 c5 c6 c7 : Int) : List AVal := [.i node, .i kind, .i c3, .i c4, .i c5, .i c6, .i c7]
theorem see_c {bw bd bh bm : Nat} {w : Wkr} {ks : List Int} {node kind c3 c4 c5 c6 c7 : Int} {H : AHeap} (hw : WkAt H bw bd bh bm w) (hmm : w.deep = true → H bm = some (.amap (encSet ks))) (nmw : bm ≠ bw) {K : AVal → AHeap → Prop}
    (h0 : (w.deep = false ∨ ¬ kind = 2) → K (.b true) H) (h1 : w.deep = true → kind = 2 → K (.b (!ks.contains node)) (H.put bm (.amap (encSet (setIn ks node))))) :
    ACalls Try.prog 19 [.ptr bw 0, .agg (encStt node kind c3 c4 c5 c6 c7)] H K := by
  refine acalls_body Try.func19 rfl rfl rfl ?_
  have hc0 := hw.cells
  have hcl : encWk w bd bh bm = [.b w.deep, .clo 36 [] [.ptr bd 0, .ptr bh 0], .sl (encItms w.left) .no, .s w.last.path, .b w.last.op, .b w.last.fo, .b w.begun, .mapv bm] := rfl
  rw [hcl] at hc0
  cases hd : w.deep with
  | false =>
    rw [hd] at hc0
    repeat first|apply w6|apply w7
    refine s_box rfl rfl rfl (fun b3 hb3 => ?_); have hb := hb3; (try simp only [put_none_iff, prot_none_iff] at hb); (repeat obtain ⟨_, _, hb⟩ := hb)
    repeat first|(apply gO;first|(apply x1;apply r0;apply r0)|(apply x2;apply r0;(with_reducible repeat first|exact q1 ‹_›|apply q3|exact n2 ‹_› ‹_›);apply r0)|apply w4|(apply w3;apply r0;apply r0))|(apply gW;first|apply w6|apply w7|(apply w8;apply r0)|(apply w9;apply r0)|apply wa|apply wd)|apply w5|apply we
    exact rt1 (H' := H) rfl rfl (.refl _) (by repeat first|exact s0|(apply su1;assumption)) (h0 (by first | exact .inl hd | exact .inr g1))
  | true =>
  replace hmm := hmm hd
  rw [hd] at hc0
  repeat first|apply w6|apply w7
  refine s_box rfl rfl rfl (fun b3 hb3 => ?_); have hb := hb3; (try simp only [put_none_iff, prot_none_iff] at hb); (repeat obtain ⟨_, _, hb⟩ := hb)
  repeat first|(apply gO;first|(apply x1;apply r0;apply r0)|(apply x2;apply r0;(with_reducible repeat first|apply q0|exact q1 ‹_›|apply q3|exact n2 ‹_› ‹_›);apply r0)|(apply x5;apply r0)|apply w4)|(apply gW;first|apply w6|apply w7|(apply w9;apply r0)|apply wa)|apply w5
  refine aw_cond rfl (fun g1 => ?_) (fun g1 => ?_)<;>first|replace g1:=not_t g1|replace g1:=not_f g1
  · repeat first|(apply x1;apply r0;apply r0)|apply w4|apply w6|apply w7|apply wd|apply w5|apply we
    exact rt1 (H' := H) rfl rfl (.refl _) (by repeat first|exact s0|(apply su1;assumption)) (h0 (by first | exact .inl hd | exact .inr g1))
  have g1' : kind = 2 := g1
  have hK := h1 hd g1'
  have nm3 : bm ≠ b3 := get_ne hmm hb3
  have nw3 : bw ≠ b3 := get_ne hc0 hb3
  have fm : (H.put b3 (.cells (encStt node kind c3 c4 c5 c6 c7))) bm = some (.amap (encSet ks)) := by rw [put_ne nm3]; exact hmm
  have nbm : bm ∉ [bw, b3] := by simp [nmw, nm3]
  repeat first|apply w6|apply wa|apply w5
  refine aw_prot [bw, b3] (allc (by with_reducible repeat first|assumption|exact q1 ‹_›|apply q3) (allc (by apply q0) (allc0 _))) ?_
  refine aw_plan mixed (.take 0 (.take 1 (.take 2 (.take 3 (.take 4 (.take 5 (.one 6 (.take 7 .done)))))))) (by kernel_rfl) ?_
  repeat first|(apply y1;apply r0;apply r0)|(apply y4;apply r0)|(apply y2;apply r0;apply r0;(with_reducible repeat first|assumption|apply q0|exact q1 ‹_›|apply pg|apply q3|exact mm0|apply mm1);apply r0)
  refine s_lookupS (ks := ks) (q := node) Try.underlying87 Try.underlying3 Try.zeroValue4 rfl rfl rfl ((prot_other nbm).trans fm) ?_
  repeat first|apply w4|(apply y1;apply r0;apply r0)|apply y0
  refine prot_done ?_
  repeat first|apply w6|apply w5
  refine aw_prot [bw, b3] (allc (by with_reducible repeat first|assumption|exact q1 ‹_›|apply q3) (allc (by apply q0) (allc0 _))) ?_
  refine aw_plan mixed (.take 0 (.take 1 (.take 2 (.take 3 (.take 4 (.take 5 (.one 6 .done))))))) (by kernel_rfl) ?_
  repeat first|(apply y1;apply r0;apply r0)|(apply y4;apply r0)|(apply y2;apply r0;apply r0;(with_reducible repeat first|assumption|apply q0|exact q1 ‹_›|apply pg|apply q3|exact mm0|apply mm1);apply r0)
  refine s_updateS (ks := ks) (q := node) Try.underlying87 Try.underlying3 rfl rfl rfl ((prot_other nbm).trans fm) ?_
  repeat first|apply w4|apply y0
  refine prot_done_put nbm ?_
  repeat first|(apply x1;apply r0;apply r0)|apply w4|apply w6|apply w7|apply wd|apply w5
  exact rt1 (H' := H.put bm (.amap (encSet (setIn ks node)))) rfl rfl (.refl _) (sub_at (put_same _ _ _) (fun x h2 h3 => by
    have h4 : x ≠ b3 := fun e => h3 (by rw [e]; exact hb3)
    rw [put_ne h2, put_ne h4])) hK
theorem see_nil {node kind c3 c4 c5 c6 c7 : Int} {H : AHeap} {K : AVal → AHeap → Prop} (hK : K (.b false) H) :
    ACalls Try.prog 19 [.nilp, .agg (encStt node kind c3 c4 c5 c6 c7)] H K := by
  refine acalls_body Try.func19 rfl rfl rfl ?_
  repeat first|apply w6|apply w7
  refine s_box rfl rfl rfl (fun b3 hb3 => ?_); have hb := hb3; (try simp only [put_none_iff, prot_none_iff] at hb); (repeat obtain ⟨_, _, hb⟩ := hb)
  repeat first|(apply gO;first|(apply x1;apply r0;apply r0)|apply w4)|(apply gW;first|apply w6|apply w7|(apply w8;apply r0)|apply wd)|apply w5|apply we
  exact rt1 (H' := H) rfl rfl (.refl _) (by repeat first|exact s0|(apply su1;assumption)) hK
end Abs
end Go.Proofs.Ytbldnaflffmddaa
