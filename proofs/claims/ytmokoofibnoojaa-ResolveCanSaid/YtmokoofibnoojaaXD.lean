import Derived.Test.YtmokoofibnoojaaXA
import Derived.Test.YtmokoofibnoojaaL1
import Derived.Test.YtmokoofibnoojaaQ4
set_option linter.unusedVariables false
namespace Go.Proofs.Ytmokoofibnoojaa
namespace Abs
set_option linter.unusedSimpArgs false
set_option maxRecDepth 10000
set_option maxHeartbeats 2000000
attribute [local irreducible] AOps AW AP ACalls thenQ inBlk noGoto
attribute [local irreducible] absOf endOf

/-! ### the document's chapter 11 -/
structure Tells (T : Tab) (L : List Node) : Prop where
  rel : Rel T L
  good : T.good
theorem Tells.get {T : Tab} {L : List Node} (h : Tells T L) (i : Int) : rget L i = T.at i := l_get h.good.wf h.rel i
theorem Tells.len {T : Tab} {L : List Node} (h : Tells T L) : L.length ≤ 1073741824 := Nat.le_trans h.rel.most (by decide)
theorem at_ok {T : Tab} (hg : T.good) (i : Int) : T.at i = Node.zero ∨ nodeOk (T.at i) = true := by
  unfold Tab.at
  split
  · exact get_clean hg.clean i
  · exact .inl rfl
theorem at_mode {T : Tab} (hg : T.good) (i : Int) : 0 ≤ (T.at i).mode ∧ (T.at i).mode ≤ 4095 := by
  rcases at_ok hg i with e | e
  · rw [e]; exact ⟨by decide, by decide⟩
  · unfold nodeOk at e
    simp only [Bool.and_eq_true, decide_eq_true_eq] at e
    exact e.1.1.1
theorem at_kind {T : Tab} (i : Int) : (T.at i).kind = 0 ↔ T.has i = false := by
  unfold Tab.at
  cases h : T.has i with
  | true =>
    rw [if_pos rfl]
    have := has_kind h
    simp [this]
  | false => simp [Node.zero]
theorem in64_mode {m : Int} (h : 0 ≤ m ∧ m ≤ 4095) : in64 m := ⟨by omega, by omega⟩
theorem rcan1_c {T : Tab} {L : List Node} (ht : Tells T L) {c : Cred} (hc : c.small) {i want : Int} (hw : in64 want) {H : AHeap} {K : AVal → AHeap → Prop} (hK : K (.b (T.can c i want)) H) :
    ACalls Try.prog 21 [.agg (encT L), .agg (encCred c), .i i, .i want] H K := by
  refine acalls_body Try.func21 rfl rfl rfl ?_
  unfold Tab.can at hK
  repeat first|apply w6|apply w7
  refine s_box rfl rfl rfl (fun b4 hb4 => ?_); have hb := hb4; (try simp only [put_none_iff, prot_none_iff] at hb); (repeat obtain ⟨_, _, hb⟩ := hb)
  skip
  refine s_box rfl rfl rfl (fun b5 hb5 => ?_); have hb := hb5; (try simp only [put_none_iff, prot_none_iff] at hb); (repeat obtain ⟨_, _, hb⟩ := hb)
  repeat first|(apply x1;apply r0;apply r0)|(apply x2;apply r0;(with_reducible repeat first|assumption|apply q0|apply q3);apply r0)|(apply x9;apply r0)|apply w4|apply w6|apply w7|apply w5
  refine rget_c ht.len ?_
  rw [ht.get]
  have hm := in64_mode (at_mode ht.good i)
  have hk := at_kind (T := T) i
  skip
  refine s_alloc tk rfl rfl rfl (fun b9 hb9 => ?_); have hb := hb9; (try simp only [put_none_iff, prot_none_iff] at hb); (repeat obtain ⟨_, _, hb⟩ := hb)
  repeat first|(apply x1;apply r0;apply r0)|(apply x2;apply r0;(with_reducible repeat first|apply q0|apply ps);apply r0)|(apply xst;apply r0;(with_reducible repeat first|apply q0|apply ps);apply r0)|apply w4|apply w6|apply w7|apply w5
  refine s_gsplit rfl rfl (fun g => ?_) (fun g => ?_)<;>first|replace g:=not_t g|replace g:=not_f g
  · have hh : T.has i = true := by
      cases hq : T.has i with
      | true => rfl
      | false => exact absurd (hk.2 hq) g
    rw [hh, Bool.true_and] at hK
    repeat first|(apply x1;apply r0;apply r0)|(apply x2;apply r0;(with_reducible repeat first|assumption|apply q0|apply q3);apply r0)|(apply x5;apply r0)|(apply x9;apply r0)
    refine rcan_c hc hm hw ?_
    repeat first|(apply x1;apply r0;apply r0)|apply w4|apply wd|apply w5
    exact rt1 (H' := H) rfl rfl (.refl _) (by repeat first|exact s0|(apply su1;assumption)) hK
  · have hh : T.has i = false := hk.1 g
    rw [hh, Bool.false_and] at hK
    repeat first|(apply x1;apply r0;apply r0)|apply w4|(apply w3;apply r0;apply r0)|apply wd|apply w5
    exact rt1 (H' := H) rfl rfl (.refl _) (by repeat first|exact s0|(apply su1;assumption)) hK
end Abs
end Go.Proofs.Ytmokoofibnoojaa

set_option linter.unusedVariables false
namespace Go.Proofs.Ytmokoofibnoojaa
namespace Abs
set_option linter.unusedSimpArgs false
set_option maxRecDepth 10000
set_option maxHeartbeats 2000000
attribute [local irreducible] AOps AW AP ACalls thenQ inBlk noGoto
attribute [local irreducible] absOf endOf

/-! ### the document's chapter 11: link, take -/
end Abs
end Go.Proofs.Ytmokoofibnoojaa

set_option linter.unusedVariables false
namespace Go.Proofs.Ytmokoofibnoojaa
namespace Abs
set_option linter.unusedSimpArgs false
set_option maxRecDepth 10000
set_option maxHeartbeats 2000000
attribute [local irreducible] AOps AW AP ACalls thenQ inBlk noGoto
attribute [local irreducible] absOf endOf

/-! ### the document's chapter 11: take, Resolve -/
end Abs
end Go.Proofs.Ytmokoofibnoojaa

set_option linter.unusedVariables false
namespace Go.Proofs.Ytmokoofibnoojaa
namespace Abs
set_option linter.unusedSimpArgs false
set_option maxRecDepth 10000
set_option maxHeartbeats 2000000
attribute [local irreducible] AOps AW AP ACalls thenQ inBlk noGoto
attribute [local irreducible] absOf endOf

/-! ### the document's chapter 11: Resolve -/
end Abs
end Go.Proofs.Ytmokoofibnoojaa
