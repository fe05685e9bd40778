import Derived.Test.YtkopeigfjjbajaaQ2
import Derived.Test.YtkopeigfjjbajaaT1
import Derived.Test.YtkopeigfjjbajaaS1
set_option linter.unusedVariables false
namespace Go.Proofs.Ytkopeigfjjbajaa
namespace Abs
set_option maxRecDepth 10000
attribute [local irreducible] AOps AW AP ACalls thenQ inBlk noGoto

/-! ### the document's chapter 09: tables as lists -/
def rget (l : List Node) (i : Int) : Node := if 1 ≤ i ∧ i ≤ l.length then l.getD (i - 1).toNat Node.zero else Node.zero
end Abs
end Go.Proofs.Ytkopeigfjjbajaa

set_option linter.unusedVariables false
namespace Go.Proofs.Ytkopeigfjjbajaa
namespace Abs
set_option maxRecDepth 10000
attribute [local irreducible] AOps AW AP ACalls thenQ inBlk noGoto

end Abs
end Go.Proofs.Ytkopeigfjjbajaa

set_option linter.unusedVariables false
namespace Go.Proofs.Ytkopeigfjjbajaa
namespace Abs
set_option maxRecDepth 10000
attribute [local irreducible] AOps AW AP ACalls thenQ inBlk noGoto

end Abs
end Go.Proofs.Ytkopeigfjjbajaa

set_option linter.unusedVariables false
namespace Go.Proofs.Ytkopeigfjjbajaa
namespace Abs
set_option maxRecDepth 10000
attribute [local irreducible] AOps AW AP ACalls thenQ inBlk noGoto

end Abs
end Go.Proofs.Ytkopeigfjjbajaa

set_option linter.unusedVariables false
namespace Go.Proofs.Ytkopeigfjjbajaa
namespace Abs
set_option maxRecDepth 10000
attribute [local irreducible] AOps AW AP ACalls thenQ inBlk noGoto

theorem not_dec {p : Prop} [Decidable p] (h : (!decide p) = true) : decide p = false := by simpa using h
theorem dec_not {p : Prop} [Decidable p] (h : (!decide p) = false) : decide p = true := by simpa using h
set_option maxHeartbeats 1000000 in
theorem rsame_c {a b : Node} (ha : a.nlen) {H : AHeap} {K : AVal → AHeap → Prop} (hK : K (.b (a.same b)) H) : ACalls Try.prog 16 [.agg (encM a), .agg (encM b)] H K := by
  refine acalls_body Try.func16 rfl rfl rfl ?_
  have ha1 := ha.1
  have lna := names_len a.ents
  have lnb := names_len b.ents
  have lka := kids_len a.ents
  have lkb := kids_len b.ents
  repeat (first|apply w6|apply w7)
  refine s_box rfl rfl rfl (fun b2 h2 => ?_)
  skip
  refine s_box rfl rfl rfl (fun b3 h3 => ?_)
  obtain ⟨n3, h3'⟩ := put_none h3
  have hr2 : Rd ((H.put b2 (.cells (encM a))).put b3 (.cells (encM b))) b2 (encM a) := .inl (by rw [put_ne (Ne.symm n3), put_same])
  have hr3 : Rd ((H.put b2 (.cells (encM a))).put b3 (.cells (encM b))) b3 (encM b) := .inl (put_same _ _ _)
  have hsub : H.sub ((H.put b2 (.cells (encM a))).put b3 (.cells (encM b))) := sub_new h3' (sub_new h2 (AHeap.sub_refl _))
  generalize ((H.put b2 (.cells (encM a))).put b3 (.cells (encM b))) = X at hr2 hr3 hsub ⊢
  have hfalse : a.same b = false → K (.b false) H := fun h => by rw [h] at hK; exact hK
  repeat (first|(apply w1;apply rfl;apply rfl)|apply w4|apply w5|apply w6|apply w7|(apply s_load tk;apply rfl;apply rfl;(assumption);apply rfl;apply rfl))
  refine s_gsplit rfl rfl (fun g => ?_) (fun g1 => ?_)
  · repeat (first|(apply w1;apply rfl;apply rfl)|(apply w3;apply rfl;apply rfl)|apply w4|apply w5|apply w6|apply w7|(apply w8;apply rfl)|apply wd|apply we)
    exact rt1 rfl rfl (.refl _) hsub (hfalse (by simp only [Node.same, not_dec g, Bool.false_and]))
  repeat (first|(apply w1;apply rfl;apply rfl)|(apply w2;apply rfl)|(apply s_load tk;apply rfl;apply rfl;(assumption);apply rfl;apply rfl))
  refine s_gsplit rfl rfl (fun g => ?_) (fun g2 => ?_)
  · repeat (first|(apply w1;apply rfl;apply rfl)|(apply w3;apply rfl;apply rfl)|apply w4|apply w5|apply w6|apply w7|(apply w8;apply rfl)|apply wd|apply we)
    exact rt1 rfl rfl (.refl _) hsub (hfalse (by simp only [Node.same, not_dec g, Bool.false_and, Bool.and_false]))
  repeat (first|(apply w1;apply rfl;apply rfl)|(apply w2;apply rfl)|(apply s_load tk;apply rfl;apply rfl;(assumption);apply rfl;apply rfl))
  refine s_gsplit rfl rfl (fun g => ?_) (fun g3 => ?_)
  · repeat (first|(apply w1;apply rfl;apply rfl)|(apply w3;apply rfl;apply rfl)|apply w4|apply w5|apply w6|apply w7|(apply w8;apply rfl)|apply wd|apply we)
    exact rt1 rfl rfl (.refl _) hsub (hfalse (by simp only [Node.same, not_dec g, Bool.false_and, Bool.and_false]))
  repeat (first|(apply w1;apply rfl;apply rfl)|(apply w2;apply rfl)|(apply s_load tk;apply rfl;apply rfl;(assumption);apply rfl;apply rfl))
  refine s_gsplit rfl rfl (fun g => ?_) (fun g4 => ?_)
  · repeat (first|(apply w1;apply rfl;apply rfl)|(apply w3;apply rfl;apply rfl)|apply w4|apply w5|apply w6|apply w7|(apply w8;apply rfl)|apply wd|apply we)
    exact rt1 rfl rfl (.refl _) hsub (hfalse (by simp only [Node.same, not_dec g, Bool.false_and, Bool.and_false]))
  repeat (first|(apply w1;apply rfl;apply rfl)|(apply w2;apply rfl)|(apply s_load tk;apply rfl;apply rfl;(assumption);apply rfl;apply rfl))
  refine s_gsplit rfl rfl (fun g => ?_) (fun g5 => ?_)
  · repeat (first|(apply w1;apply rfl;apply rfl)|(apply w3;apply rfl;apply rfl)|apply w4|apply w5|apply w6|apply w7|(apply w8;apply rfl)|apply wd|apply we)
    exact rt1 rfl rfl (.refl _) hsub (hfalse (by simp only [Node.same, not_dec g, Bool.false_and, Bool.and_false]))
  repeat (first|(apply w1;apply rfl;apply rfl)|(apply w2;apply rfl)|(apply s_load tk;apply rfl;apply rfl;(assumption);apply rfl;apply rfl))
  refine s_gsplit rfl rfl (fun g => ?_) (fun g6 => ?_)
  · repeat (first|(apply w1;apply rfl;apply rfl)|(apply w3;apply rfl;apply rfl)|apply w4|apply w5|apply w6|apply w7|(apply w8;apply rfl)|apply wd|apply we)
    exact rt1 rfl rfl (.refl _) hsub (hfalse (by simp only [Node.same, not_dec g, Bool.false_and, Bool.and_false]))
  repeat (first|(apply w1;apply rfl;apply rfl)|(apply w2;apply rfl)|apply w4|apply w5|(apply s_load tk;apply rfl;apply rfl;(assumption);apply rfl;apply rfl))
  refine aw_cond rfl (fun g => ?_) (fun g7 => ?_)
  · repeat (first|(apply w1;apply rfl;apply rfl)|apply w4|apply w5|apply w6|apply w7|apply wd|apply we)
    refine rt1 rfl rfl (.refl _) hsub (hfalse ?_)
    have : ¬ a.ents = b.ents := fun e => by rw [e] at g; simp at g
    simp only [Node.same, decide_eq_false this, Bool.and_false]
  have hlen : a.ents.length = b.ents.length := by
    have : ((encNames a.ents).length : Int) = (encNames b.ents).length := of_decide_eq_true (dec_not g7)
    omega
  have hsame : a.same b = decide (a.ents = b.ents) := by
    simp only [Node.same, dec_not g1, dec_not g2, dec_not g3, dec_not g4, dec_not g5, dec_not g6, Bool.true_and]
  rw [hsame] at hK hfalse
  clear hsame g1 g2 g3 g4 g5 g6 g7
  repeat (first|(apply w1;apply rfl;apply rfl)|apply w4|apply w5|apply w6|apply w7|apply wa|apply wb)
  refine aw_loop (fun k : Nat => k ≤ a.ents.length ∧ a.ents.take k = b.ents.take k) (fun k => [(2, .ptr b2 0), (3, .ptr b3 0), (5, .i k)]) (fun _ => X) (fun k => a.ents.length - k) 0 ⟨Nat.zero_le _, rfl⟩ (Fr.sub_cons rfl (Fr.sub_cons rfl (Fr.sub_cons rfl (Fr.sub_nil _)))) (AHeap.sub_refl _) ?_
  rintro k ⟨hk, hall⟩
  repeat (first|(apply w1;apply rfl;apply rfl)|apply w4|apply w5|apply w6|apply w7|(apply s_load tk;apply rfl;apply rfl;(assumption);apply rfl;apply rfl))
  refine aw_cond rfl (fun c => ?_) (fun c => ?_)
  case refine_2 =>
    have hke : k = a.ents.length := by have := of_decide_eq_false c; omega
    subst hke
    have : a.ents = b.ents := by rw [List.take_length, hlen, List.take_length] at hall; exact hall
    rw [decide_eq_true this] at hK
    repeat (first|(apply w1;apply rfl;apply rfl)|apply w4|apply w5|apply w6|apply w7|apply wd|apply wc|apply wf|apply wh)
    exact rt1 rfl rfl (.refl _) hsub hK
  have c' : k < a.ents.length := by have := of_decide_eq_true c; omega
  have c2 : k < b.ents.length := by omega
  repeat (first|apply w5|apply w6|apply wa|apply wb)
  refine aw_prot [b2, b3] (allc hr2 (allc hr3 (allc0 _))) ?_
  have ro2 := prot_get (bs := [b2, b3]) (by simp) hr2
  have ro3 := prot_get (bs := [b2, b3]) (by simp) hr3
  refine aw_plan mixed (.take 0 (.take 1 (.take 2 (.take 3 (.take 4 (.take 5 (.take 6 (.take 7 (.take 8 (.take 9 (.take 10 (.take 11 (.take 12 (.take 13 (.take 14 (.take 15 (.take 16 (.take 17 (.take 18 (.take 19 (.take 20 (.take 21 (.take 22 (.take 23 .done)))))))))))))))))))))))) (by kernel_rfl) ?_
  repeat (first|(apply d1;apply rfl;apply rfl;apply rfl;apply rfl)|(apply d_ro;apply rfl;apply rfl;apply rfl;apply rfl;(assumption);apply rfl;apply rfl))
  refine d_index rfl rfl rfl rfl rfl rfl (by omega) (names_get a.ents k c') rfl ?_
  repeat (first|(apply d1;apply rfl;apply rfl;apply rfl;apply rfl)|(apply d_ro;apply rfl;apply rfl;apply rfl;apply rfl;(assumption);apply rfl;apply rfl)|(apply d_ept;apply rfl;apply rfl;apply rfl;apply rfl;apply rfl;apply rfl))
  refine d_index rfl rfl rfl rfl rfl rfl (by omega) (names_get b.ents k c2) rfl ?_
  repeat (first|(apply d1;apply rfl;apply rfl;apply rfl;apply rfl)|(apply d_ept;apply rfl;apply rfl;apply rfl;apply rfl;apply rfl;apply rfl))
  refine d_split rfl rfl rfl (fun e1 => ?_) (fun e1 => ?_)
  · repeat (first|(apply d1;apply rfl;apply rfl;apply rfl;apply rfl)|(apply d2;apply rfl;apply rfl;apply rfl)|apply d3)
    refine prot_done ?_
    repeat (first|(apply w1;apply rfl;apply rfl)|apply w4|apply w5|apply w6|apply w7|(apply w8;apply rfl)|apply wd|apply we|apply wj)
    refine rt1 rfl rfl (.refl _) hsub (hfalse (decide_eq_false fun e => ?_))
    have := of_decide_eq_false (not_dec e1)
    exact this (by simp only [e])
  repeat (first|(apply d1;apply rfl;apply rfl;apply rfl;apply rfl)|(apply d_ro;apply rfl;apply rfl;apply rfl;apply rfl;(assumption);apply rfl;apply rfl))
  refine d_index rfl rfl rfl rfl rfl rfl (by omega) (kids_get a.ents k c') rfl ?_
  repeat (first|(apply d1;apply rfl;apply rfl;apply rfl;apply rfl)|(apply d_ro;apply rfl;apply rfl;apply rfl;apply rfl;(assumption);apply rfl;apply rfl)|(apply d_ept;apply rfl;apply rfl;apply rfl;apply rfl;apply rfl;apply rfl))
  refine d_index rfl rfl rfl rfl rfl rfl (by omega) (kids_get b.ents k c2) rfl ?_
  repeat (first|(apply d1;apply rfl;apply rfl;apply rfl;apply rfl)|apply d3|(apply d_ept;apply rfl;apply rfl;apply rfl;apply rfl;apply rfl;apply rfl))
  refine prot_done ?_
  repeat (apply w5)
  refine aw_cond rfl (fun e2 => ?_) (fun e2 => ?_)
  · repeat (first|(apply w1;apply rfl;apply rfl)|apply w4|apply w5|apply w6|apply w7|apply wd|apply we|apply wj)
    refine rt1 rfl rfl (.refl _) hsub (hfalse (decide_eq_false fun e => ?_))
    have := of_decide_eq_false (not_dec e2)
    exact this (by simp only [e])
  · have he : a.ents[k] = b.ents[k] := by
      have h1 : a.ents[k].name = b.ents[k].name := of_decide_eq_true (dec_not e1)
      have h2 : a.ents[k].node = b.ents[k].node := of_decide_eq_true (dec_not e2)
      cases hx : a.ents[k]; cases hy : b.ents[k]
      simp_all
    repeat (first|(apply w1;apply rfl;apply rfl)|apply w5|apply w7|apply wa|apply wg)
    refine s_add rfl rfl rfl (by omega) ?_
    repeat (first|(apply w1;apply rfl;apply rfl)|apply w4|apply w5)
    refine ⟨k + 1, ⟨c', ?_⟩, by omega, Fr.sub_cons rfl (Fr.sub_cons rfl (Fr.sub_cons rfl (Fr.sub_nil _))), AHeap.sub_refl _⟩
    rw [List.take_add_one, List.take_add_one, List.getElem?_eq_getElem c', List.getElem?_eq_getElem c2, hall, he]
end Abs
end Go.Proofs.Ytkopeigfjjbajaa

set_option linter.unusedVariables false
namespace Go.Proofs.Ytkopeigfjjbajaa
namespace Abs
set_option maxRecDepth 10000
attribute [local irreducible] AOps AW AP ACalls thenQ inBlk noGoto

end Abs
end Go.Proofs.Ytkopeigfjjbajaa
