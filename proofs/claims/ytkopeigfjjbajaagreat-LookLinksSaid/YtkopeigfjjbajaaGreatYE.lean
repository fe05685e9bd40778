import Derived.Test.YtkopeigfjjbajaaGreatY9
import Derived.Test.YtkopeigfjjbajaaGreatZ8
set_option linter.unusedVariables false
namespace Go.Proofs.YtkopeigfjjbajaaGreat
namespace Abs
set_option linter.unusedSimpArgs false
set_option maxRecDepth 10000
set_option maxHeartbeats 2000000
attribute [local irreducible] AOps AW AP ACalls thenQ inBlk noGoto

/-! ### LookLinks -/
theorem lookLinks_c {room : Int} {l : List Raw} (hl : l.length ≤ 9223372036854775807) {c : Cred} {dir name : ByteArray} {H : AHeap} {K : AVal → AHeap → Prop} (hK : K (.b true) H) :
    ACalls Tryz.prog 5 [.i room, .sl (encRaws l) .no, .agg (encCred c), .s dir, .s name] H K := by
  refine acalls_body Tryz.func5 rfl rfl rfl ?_
  repeat first|apply w6|apply w7
  refine s_box rfl rfl rfl (fun b7 hb7 => ?_); have hb := hb7; (try simp only [put_none_iff, prot_none_iff] at hb); (repeat obtain ⟨_, _, hb⟩ := hb)
  repeat first|(apply x1;apply r0;apply r0)|(apply x9;apply r0)|apply w4|apply w6|apply w7|apply w5
  refine awake12_c ?_
  repeat first|(apply gO;first|(apply x1;apply r0;apply r0)|(apply x2;apply r0;(apply q0);apply r0)|(apply x9;apply r0)|apply w4)|(apply gW;first|apply w6|apply w7|(apply w9;apply r0)|apply wa)|apply w5
  refine built12_c hl ?_ (fun T t hB ht => ?_)
  · repeat first|(apply gO;first|(apply x1;apply r0;apply r0)|apply w4|(apply w3;apply r0;apply r0))|(apply gW;first|apply w6|apply w7|(apply w8;apply r0)|apply wd)|apply w5|apply we
    exact rt1 (H' := H) rfl rfl (.refl _) (by repeat first|exact s0|(apply su1;assumption)) hK
  have hg := hB.good
  have hc := hB.small
  have htr := build_tree hB.tree
  have nb7 : b7 ≠ t := by
    have := (put_none_iff.1 ht)
    exact this.2.1
  have ht' : H t = none := (put_none_iff.1 ht).2.2
  repeat first|(apply x1;apply r0;apply r0)|(apply x5;apply r0)|apply w4|apply w6|apply w7|apply w5
  refine s_gsplit rfl rfl (fun g1 => ?_) (fun g1 => ?_)<;>first|replace g1:=of_decide_eq_true g1|replace g1:=of_decide_eq_false g1
  · repeat first|(apply gO;first|(apply x1;apply r0;apply r0)|apply w4|(apply w3;apply r0;apply r0))|(apply gW;first|apply w6|apply w7|(apply w8;apply r0)|apply wd)|apply w5|apply we
    exact rt1 (H' := H) rfl rfl (.refl _) (by repeat first|exact s0|(apply su1;assumption)) hK
  repeat first|(apply x1;apply r0;apply r0)|(apply x5;apply r0)
  refine s_gsplit rfl rfl (fun g2 => ?_) (fun g2 => ?_)<;>first|replace g2:=of_decide_eq_true g2|replace g2:=of_decide_eq_false g2
  · repeat first|(apply gO;first|(apply x1;apply r0;apply r0)|apply w4|(apply w3;apply r0;apply r0))|(apply gW;first|apply w6|apply w7|(apply w8;apply r0)|apply wd)|apply w5|apply we
    exact rt1 (H' := H) rfl rfl (.refl _) (by repeat first|exact s0|(apply su1;assumption)) hK
  repeat first|(apply x1;apply r0;apply r0)|(apply x5;apply r0)|(apply x9;apply r0)
  refine name_c ?_
  cases hn : nameOk name with
  | false =>
    repeat first|(apply gO;first|(apply x1;apply r0;apply r0)|(apply x5;apply r0)|apply w4)|(apply gW;first|apply w6|apply w7|(apply w8;apply r0)|apply wd)|apply w5|apply we
    exact rt1 (H' := H) rfl rfl (.refl _) (by repeat first|exact s0|(apply su1;assumption)) hK
  | true =>
  repeat first|(apply gO;first|(apply x1;apply r0;apply r0)|(apply x5;apply r0)|(apply x9;apply r0)|apply w4)|(apply gW;first|apply w6|apply w7|(apply w9;apply r0)|apply wa)|apply w5
  refine join_c (by omega) (by omega) ?_
  have hLaw := link_law hg htr (c := c) (d := dir) hn
  generalize hP : joinOf dir name = P at hLaw ⊢
  have hJ : T.readlink c P = (if ¬ (T.look c P false).2 = 0 then (⟨#[]⟩, (T.look c P false).2) else if ¬ (T.look c P false).1.kind = 3 then (⟨#[]⟩, 22) else ((T.at (T.look c P false).1.node).target, 0)) := rfl
  repeat first|(apply x1;apply r0;apply r0)|(apply x2;apply r0;(with_reducible repeat first|assumption|apply q0|apply q3);apply r0)|(apply x9;apply r0)|apply w4|apply w6|apply w7|apply w5
  refine llstat_c hg hc (by apply q0) ?_
  generalize T.look c P false = A at hLaw hJ ⊢
  repeat (apply x1;apply r0;apply r0)
  refine s_alloc tk rfl rfl rfl (fun b15 hb15 => ?_); have hb := hb15; (try simp only [put_none_iff, prot_none_iff] at hb); (repeat obtain ⟨_, _, hb⟩ := hb)
  (apply xst;apply r0;(apply ps);apply r0)
  repeat first|(apply x1;apply r0;apply r0)|(apply x2;apply r0;(with_reducible repeat first|assumption|apply q0|apply q3);apply r0)|(apply x9;apply r0)|apply w4|apply w6|apply w7|apply w5
  refine lstat_c hg hc (by with_reducible repeat first|assumption|apply q0|apply q3) ?_
  generalize T.look c P true = B at hLaw ⊢
  repeat (apply x1;apply r0;apply r0)
  refine s_alloc tk rfl rfl rfl (fun b17 hb17 => ?_); have hb := hb17; (try simp only [put_none_iff, prot_none_iff] at hb); (repeat obtain ⟨_, _, hb⟩ := hb)
  (apply xst;apply r0;(apply ps);apply r0)
  repeat first|(apply x1;apply r0;apply r0)|apply w4|apply w6|apply w7|apply w5
  refine aw_cond rfl (fun g4 => ?_) (fun g4 => ?_)<;>first|replace g4:=not_t g4|replace g4:=not_f g4
  · rw [hLaw.err g4]
    repeat first|(apply x1;apply r0;apply r0)|apply w6|apply w7
    refine s_gsplit rfl rfl (fun e1 => ?_) (fun e1 => ?_)<;>first|replace e1:=of_decide_eq_true e1|replace e1:=of_decide_eq_false e1
    case refine_2 => exact (e1 rfl).elim
    repeat first|(apply x1;apply r0;apply r0)|apply w4|(apply w3;apply r0;apply r0)|apply wd|apply w5|apply we
    exact rt1 (H' := H) rfl rfl (.refl _) (by repeat first|exact s0|(apply su1;assumption)) hK
  have g4' : A.2 = 0 := g4
  repeat first|(apply x1;apply r0;apply r0)|(apply x2;apply r0;(with_reducible repeat first|assumption|apply q0|apply q3);apply r0)|apply w4|apply w6|apply w7|apply wa|apply w5
  refine aw_cond rfl (fun g5 => ?_) (fun g5 => ?_)<;>first|replace g5:=not_t g5|replace g5:=not_f g5
  · have e := hLaw.same g4' g5
    subst e
    repeat first|(apply x1;apply r0;apply r0)|apply w6|apply w7
    refine s_gsplit rfl rfl (fun e1 => ?_) (fun e1 => ?_)<;>first|replace e1:=of_decide_eq_true e1|replace e1:=of_decide_eq_false e1
    case refine_2 => exact (e1 rfl).elim
    repeat first|(apply x2;apply r0;(with_reducible repeat first|assumption|apply q0|apply q3);apply r0)|(apply x5;apply r0)
    refine s_eqagg (r := true) tk rfl (.inl rfl) rfl rfl rfl (by kernel_rfl) (by exact congrArg some (statEq B.1)) ?_
    repeat first|(apply x1;apply r0;apply r0)|apply w4|apply wd|apply w5|apply we
    exact rt1 (H' := H) rfl rfl (.refl _) (by repeat first|exact s0|(apply su1;assumption)) hK
  have g5' : A.1.kind = 3 := g5
  rw [if_neg (fun q => q g4'), if_neg (fun q => q g5')] at hJ
  obtain ⟨tk3, tsz, tfit⟩ := hLaw.tgt g4' g5'
  have trel := hLaw.rel g4' g5'
  have tabs := hLaw.abs g4' g5'
  generalize (T.at A.1.node).target = tgt at hJ tsz tfit trel tabs
  obtain ⟨tne, t64, tnul⟩ := fitsOk_iff tfit
  repeat first|(apply x1;apply r0;apply r0)|(apply x2;apply r0;(with_reducible repeat first|assumption|apply q0|apply q3);apply r0)|(apply x9;apply r0)|apply w6|apply w7|apply wa|apply w5
  refine readlink_c hg hc (by with_reducible repeat first|assumption|apply q0|apply q3) ?_
  rw [hJ]
  repeat first|(apply x1;apply r0;apply r0)|(apply x2;apply r0;(with_reducible repeat first|assumption|apply q0|apply q3);apply r0)|(apply x5;apply r0)|apply w4|apply w6|apply w7|apply w5
  refine aw_cond rfl (fun e3 => ?_) (fun e3 => ?_)<;>first|replace e3:=not_t e3|replace e3:=not_f e3
  · exact absurd tsz e3
  obtain ⟨x, hx⟩ : ∃ x, (byL tgt)[0]? = some x := by
    cases hb : byL tgt with
    | nil => exact absurd hb (byL_ne tne)
    | cons y r => exact ⟨y, rfl⟩
  repeat first|(apply x1;apply r0;apply r0)|apply w6|apply w7|apply wa|apply w5
  refine s_indexs tk rfl rfl rfl rfl (by decide) hx ?_
  repeat first|(apply x1;apply r0;apply r0)|apply w4|apply w5
  refine aw_cond rfl (fun e4 => ?_) (fun e4 => ?_)<;>first|replace e4:=not_t e4|replace e4:=not_f e4
  · have ha : absOf tgt = false := by
      unfold absOf
      rw [hx]
      refine decide_eq_false (fun q => e4 ?_)
      cases q; rfl
    have hX := trel ha
    repeat first|(apply x1;apply r0;apply r0)|(apply x9;apply r0)|apply w7
    refine join_c (by omega) (by omega) ?_
    repeat first|(apply x1;apply r0;apply r0)|(apply x2;apply r0;(with_reducible repeat first|assumption|apply q0|apply q3);apply r0)|(apply x9;apply r0)|apply w4|apply w6|apply w7|apply w5
    refine lstat_c hg hc (by with_reducible repeat first|assumption|apply q0|apply q3) ?_
    generalize T.look c (joinOf dir tgt) true = X at hX ⊢
    repeat (apply x1;apply r0;apply r0)
    refine s_alloc tk rfl rfl rfl (fun b21 hb21 => ?_); have hb := hb21; (try simp only [put_none_iff, prot_none_iff] at hb); (repeat obtain ⟨_, _, hb⟩ := hb)
    (apply xst;apply r0;(apply ps);apply r0)
    repeat first|(apply x1;apply r0;apply r0)|apply w4|apply w6|apply w7|apply w5
    refine s_gsplit rfl rfl (fun w1 => ?_) (fun w1 => ?_)<;>first|replace w1:=of_decide_eq_true w1|replace w1:=of_decide_eq_false w1
    · repeat first|(apply x1;apply r0;apply r0)|apply w4|(apply w3;apply r0;apply r0)|apply wd|apply w5
      exact rt1 (H' := H) rfl rfl (.refl _) (by repeat first|exact s0|(apply su1;assumption)) hK
    repeat first|(apply x1;apply r0;apply r0)|(apply x5;apply r0)
    refine s_gsplit rfl rfl (fun w2 => ?_) (fun w2 => ?_)<;>first|replace w2:=of_decide_eq_true w2|replace w2:=of_decide_eq_false w2
    · repeat first|(apply x1;apply r0;apply r0)|apply w4|(apply w3;apply r0;apply r0)|apply wd|apply w5
      exact rt1 (H' := H) rfl rfl (.refl _) (by repeat first|exact s0|(apply su1;assumption)) hK
    have hXB : X = B := by
      rcases hX with q | q | q
      · exact absurd q w1
      · exact absurd q w2
      · exact q
    subst hXB
    repeat first|(apply x1;apply r0;apply r0)|(apply x5;apply r0)
    refine s_gsplit rfl rfl (fun w3 => ?_) (fun w3 => ?_)<;>first|replace w3:=of_decide_eq_true w3|replace w3:=of_decide_eq_false w3
    case refine_2 => exact (w3 rfl).elim
    repeat first|(apply x2;apply r0;(with_reducible repeat first|assumption|apply q0|apply q3);apply r0)|(apply x5;apply r0)
    refine s_eqagg (r := true) tk rfl (.inl rfl) rfl rfl rfl (by kernel_rfl) (by exact congrArg some (statEq X.1)) ?_
    repeat first|(apply x1;apply r0;apply r0)|(apply x5;apply r0)|apply w4|apply wd|apply w5
    exact rt1 (H' := H) rfl rfl (.refl _) (by repeat first|exact s0|(apply su1;assumption)) hK
  · have ha : absOf tgt = true := by
      unfold absOf
      rw [hx]
      refine decide_eq_true ?_
      have e4' : (x.toNat : Int) = 47 := e4
      rw [show x = 47 from UInt8.toNat_inj.1 (by show x.toNat = 47; omega)]
    have hX : (T.look c tgt true).2 = 36 ∨ B.2 = 40 ∨ T.look c tgt true = B := .inr (tabs ha)
    repeat first|(apply x1;apply r0;apply r0)|(apply x2;apply r0;(with_reducible repeat first|assumption|apply q0|apply q3);apply r0)|(apply x9;apply r0)|apply w6|apply w7|apply wa|apply w5
    refine lstat_c hg hc (by with_reducible repeat first|assumption|apply q0|apply q3) ?_
    generalize T.look c tgt true = X at hX ⊢
    repeat (apply x1;apply r0;apply r0)
    refine s_alloc tk rfl rfl rfl (fun b21 hb21 => ?_); have hb := hb21; (try simp only [put_none_iff, prot_none_iff] at hb); (repeat obtain ⟨_, _, hb⟩ := hb)
    (apply xst;apply r0;(apply ps);apply r0)
    repeat first|(apply x1;apply r0;apply r0)|apply w4|apply w6|apply w7|apply w5
    refine s_gsplit rfl rfl (fun w1 => ?_) (fun w1 => ?_)<;>first|replace w1:=of_decide_eq_true w1|replace w1:=of_decide_eq_false w1
    · repeat first|(apply x1;apply r0;apply r0)|apply w4|(apply w3;apply r0;apply r0)|apply wd|apply w5
      exact rt1 (H' := H) rfl rfl (.refl _) (by repeat first|exact s0|(apply su1;assumption)) hK
    repeat first|(apply x1;apply r0;apply r0)|(apply x5;apply r0)
    refine s_gsplit rfl rfl (fun w2 => ?_) (fun w2 => ?_)<;>first|replace w2:=of_decide_eq_true w2|replace w2:=of_decide_eq_false w2
    · repeat first|(apply x1;apply r0;apply r0)|apply w4|(apply w3;apply r0;apply r0)|apply wd|apply w5
      exact rt1 (H' := H) rfl rfl (.refl _) (by repeat first|exact s0|(apply su1;assumption)) hK
    have hXB : X = B := by
      rcases hX with q | q | q
      · exact absurd q w1
      · exact absurd q w2
      · exact q
    subst hXB
    repeat first|(apply x1;apply r0;apply r0)|(apply x5;apply r0)
    refine s_gsplit rfl rfl (fun w3 => ?_) (fun w3 => ?_)<;>first|replace w3:=of_decide_eq_true w3|replace w3:=of_decide_eq_false w3
    case refine_2 => exact (w3 rfl).elim
    repeat first|(apply x2;apply r0;(with_reducible repeat first|assumption|apply q0|apply q3);apply r0)|(apply x5;apply r0)
    refine s_eqagg (r := true) tk rfl (.inl rfl) rfl rfl rfl (by kernel_rfl) (by exact congrArg some (statEq X.1)) ?_
    repeat first|(apply x1;apply r0;apply r0)|(apply x5;apply r0)|apply w4|apply wd|apply w5
    exact rt1 (H' := H) rfl rfl (.refl _) (by repeat first|exact s0|(apply su1;assumption)) hK
end Abs
end Go.Proofs.YtkopeigfjjbajaaGreat
