import Derived.Test.YtkopeigfjjbajaaGreatY9
import Derived.Test.YtkopeigfjjbajaaGreatY5
import Derived.Test.YtkopeigfjjbajaaGreatZ4
set_option linter.unusedVariables false
namespace Go.Proofs.YtkopeigfjjbajaaGreat
namespace Abs
set_option linter.unusedSimpArgs false
set_option maxRecDepth 10000
set_option maxHeartbeats 2000000
attribute [local irreducible] AOps AW AP ACalls thenQ inBlk noGoto

/-! ### LookSame -/
theorem has_links {T : Tab} (ht : T.tree) {i : Int} (h : T.has i = true) : T.links i < 1 → i = 1 := fun h1 => by
  by_cases hk : (T.at i).kind = 2
  · by_cases e : i = 1
    · exact e
    · have := (ht.dirs i hk e).1
      omega
  · have := ht.others i h hk
    omega
theorem look_root {T : Tab} {c : Cred} {path : ByteArray} {fo : Bool} (h : (T.look c path fo).2 = 0) : T.look rootC path fo = T.look c path fo := by
  obtain ⟨i, -, -, -, -, -, h1, -⟩ := look_kind h
  obtain ⟨hr, -⟩ := resolve_root T c path fo
  rcases hr with e | e
  · unfold Tab.look; rw [e]
  · rw [e] at h1; exact absurd h1 (by decide)
theorem wkTri {a b b' c : AVal} (h : Wk b b') : Wk (.tup [a, b, c]) (.tup [a, b', c]) := .tup rfl (fun j h1 h2 => match j with | 0 => .refl _ | 1 => h | 2 => .refl _)
theorem rootC_small : rootC.small := (by decide : (0 : Nat) ≤ 1073741824)
theorem lookSame_c {room : Int} {l : List Raw} (hl : l.length ≤ 9223372036854775807) {c : Cred} {pa pb : ByteArray} {H : AHeap} {K : AVal → AHeap → Prop} (hK : K (.b true) H) :
    ACalls Tryz.prog 7 [.i room, .sl (encRaws l) .no, .agg (encCred c), .s pa, .s pb] H K := by
  refine acalls_body Tryz.func7 rfl rfl rfl ?_
  repeat first|apply w6|apply w7
  refine s_box rfl rfl rfl (fun b7 hb7 => ?_); have hb := hb7; (try simp only [put_none_iff, prot_none_iff] at hb); (repeat obtain ⟨_, _, hb⟩ := hb)
  repeat first|(apply x1;apply r0;apply r0)|(apply x9;apply r0)|apply w4|apply w6|apply w7|apply w5
  refine awake12_c ?_
  repeat first|(apply gO;first|(apply x1;apply r0;apply r0)|(apply x2;apply r0;(apply q0);apply r0)|(apply x9;apply r0)|apply w4)|(apply gW;first|apply w6|apply w7|(apply w9;apply r0)|apply wa)|apply w5
  refine built12_c hl ?_ (fun T t hB ht => ?_)
  · repeat first|(apply gO;first|(apply x1;apply r0;apply r0)|apply w4|(apply w3;apply r0;apply r0))|(apply gW;first|apply w6|apply w7|(apply w8;apply r0)|apply wd)|apply w5|apply we
    exact rt1 (H' := H) rfl rfl (.refl _) (by repeat first|exact s0|(apply su1;assumption)) hK
  have hg := hB.good
  have hc := hB.small
  have htr := build_tree hB.tree
  have nb7 : b7 ≠ t := by
    have := (put_none_iff.1 ht)
    exact this.2.1
  have ht' : H t = none := (put_none_iff.1 ht).2.2
  repeat first|(apply x1;apply r0;apply r0)|(apply x5;apply r0)|apply w4|apply w6|apply w7|apply w5
  refine s_gsplit rfl rfl (fun g1 => ?_) (fun g1 => ?_)<;>first|replace g1:=of_decide_eq_true g1|replace g1:=of_decide_eq_false g1
  · repeat first|(apply gO;first|(apply x1;apply r0;apply r0)|apply w4|(apply w3;apply r0;apply r0))|(apply gW;first|apply w6|apply w7|(apply w8;apply r0)|apply wd)|apply w5|apply we
    exact rt1 (H' := H) rfl rfl (.refl _) (by repeat first|exact s0|(apply su1;assumption)) hK
  repeat first|(apply x1;apply r0;apply r0)|(apply x5;apply r0)|apply w4|apply w5
  refine aw_cond rfl (fun g2 => ?_) (fun g2 => ?_)<;>first|replace g2:=of_decide_eq_true g2|replace g2:=of_decide_eq_false g2
  · repeat first|(apply x1;apply r0;apply r0)|apply w4|apply w6|apply w7|apply wd|apply w5|apply we
    exact rt1 (H' := H) rfl rfl (.refl _) (by repeat first|exact s0|(apply su1;assumption)) hK
  repeat first|(apply x1;apply r0;apply r0)|(apply x2;apply r0;(with_reducible repeat first|assumption|apply q0|apply q3);apply r0)|(apply x9;apply r0)|apply w6|apply w7|apply wa|apply w5
  refine lstat_c hg hc (by apply q0) ?_
  have hX := look_kind (T := T) (c := c) (path := pa) (fo := true)
  have hY := look_root (T := T) (c := c) (path := pa) (fo := true)
  have hZ := look_kind (T := T) (c := c) (path := pb) (fo := true)
  generalize T.look c pa true = X at hX hY ⊢
  obtain ⟨x, e⟩ := X
  dsimp only at hX hY ⊢
  repeat (apply x1;apply r0;apply r0)
  refine s_alloc tk rfl rfl rfl (fun b14 hb14 => ?_); have hb := hb14; (try simp only [put_none_iff, prot_none_iff] at hb); (repeat obtain ⟨_, _, hb⟩ := hb)
  repeat first|(apply gO;first|(apply x1;apply r0;apply r0)|(apply xst;apply r0;(apply ps);apply r0)|(apply xbd;apply r0)|(apply x9;apply r0)|apply w4)|(apply gW;first|apply w6|apply w7)|apply w5
  refine ACalls.wk (lstat_c (c := rootC) hg rootC_small (by with_reducible repeat first|assumption|apply q0|apply q3) ?_) (wkTri (wk_agg rfl))
  generalize T.look rootC pa true = Y at hY ⊢
  repeat (apply x1;apply r0;apply r0)
  refine s_alloc tk rfl rfl rfl (fun b16 hb16 => ?_); have hb := hb16; (try simp only [put_none_iff, prot_none_iff] at hb); (repeat obtain ⟨_, _, hb⟩ := hb)
  repeat first|(apply gO;first|(apply x1;apply r0;apply r0)|(apply x2;apply r0;(with_reducible repeat first|assumption|apply q0|apply ps|apply q3);apply r0)|(apply xst;apply r0;(with_reducible repeat first|assumption|apply q0|apply ps|apply q3);apply r0)|(apply x9;apply r0)|apply w4)|(apply gW;first|apply w6|apply w7)|apply w5
  refine lstat_c hg hc (by with_reducible repeat first|assumption|apply q0|apply q3) ?_
  generalize T.look c pb true = Z at hZ ⊢
  obtain ⟨z, d⟩ := Z
  dsimp only at hZ ⊢
  repeat (apply x1;apply r0;apply r0)
  refine s_alloc tk rfl rfl rfl (fun b18 hb18 => ?_); have hb := hb18; (try simp only [put_none_iff, prot_none_iff] at hb); (repeat obtain ⟨_, _, hb⟩ := hb)
  repeat first|(apply gO;first|(apply x1;apply r0;apply r0)|(apply x2;apply r0;(with_reducible repeat first|assumption|apply q0|apply ps|apply q3);apply r0)|(apply xst;apply r0;(with_reducible repeat first|assumption|apply q0|apply ps|apply q3);apply r0)|(apply x9;apply r0)|apply w4)|(apply gW;first|apply w6|apply w7)|apply w5
  refine of_c hg (by with_reducible repeat first|assumption|apply q0|apply q3) ?_
  repeat (apply x1;apply r0;apply r0)
  refine s_alloc tk rfl rfl rfl (fun b20 hb20 => ?_); have hb := hb20; (try simp only [put_none_iff, prot_none_iff] at hb); (repeat obtain ⟨_, _, hb⟩ := hb)
  repeat first|(apply x1;apply r0;apply r0)|(apply xst;apply r0;(apply ps);apply r0)|apply w4|apply w6|apply w7|apply w5
  refine s_gsplit rfl rfl (fun g3 => ?_) (fun g3 => ?_)<;>first|replace g3:=of_decide_eq_true g3|replace g3:=of_decide_eq_false g3
  case refine_2 =>
    repeat first|(apply gO;first|(apply x1;apply r0;apply r0)|apply w4|(apply w3;apply r0;apply r0))|(apply gW;first|apply w6|apply w7|(apply w9;apply r0)|apply wa)|apply w5
    refine s_gsplit rfl rfl (fun g4 => ?_) (fun g4 => ?_)<;>first|replace g4:=not_t g4|replace g4:=not_f g4
    case refine_2 => exact absurd g4 g3
    repeat first|(apply x1;apply r0;apply r0)|apply w4|(apply w3;apply r0;apply r0)|apply wd|apply w5
    exact rt1 (H' := H) rfl rfl (.refl _) (by repeat first|exact s0|(apply su1;assumption)) hK
  have g3' : e = 0 := g3
  subst g3'
  obtain ⟨i, hi1, hi2, hi3, hi4, hi5, -, -⟩ := hX rfl
  have hY' := hY rfl
  subst hY'
  have hx : x = T.stat i := congrArg Prod.fst hi2
  subst hx
  rw [hi3, hi1]
  repeat first|(apply x1;apply r0;apply r0)|(apply x2;apply r0;(with_reducible repeat first|assumption|apply q0|apply q3);apply r0)|(apply x5;apply r0)
  refine s_eqagg (r := true) tk rfl (.inr rfl) rfl rfl rfl (by kernel_rfl) (by exact congrArg some (statEq (T.stat i))) ?_
  repeat first|(apply x1;apply r0;apply r0)|(apply x2;apply r0;(with_reducible repeat first|assumption|apply q0|apply q3);apply r0)|(apply x5;apply r0)
  refine s_eqagg (r := true) tk rfl (.inr rfl) rfl rfl rfl (by kernel_rfl) (by exact congrArg some (statEq (T.stat i))) ?_
  repeat first|(apply x1;apply r0;apply r0)|(apply x2;apply r0;(with_reducible repeat first|assumption|apply q0|apply q3);apply r0)|(apply x5;apply r0)
  refine s_gsplit rfl rfl (fun g5 => ?_) (fun g5 => ?_)<;>first|replace g5:=of_decide_eq_true g5|replace g5:=of_decide_eq_false g5
  · have hi6 : i = 1 := has_links htr hi1 (by rw [← hi5]; omega)
    repeat first|(apply x1;apply r0;apply r0)|(apply x2;apply r0;(with_reducible repeat first|assumption|apply q0|apply q3);apply r0)|(apply x5;apply r0)|apply w4|apply w5
    refine aw_cond rfl (fun g6 => ?_) (fun g6 => ?_)<;>first|replace g6:=not_t g6|replace g6:=not_f g6
    · exact absurd (by rw [hi3]; exact hi6) g6
    repeat first|(apply x1;apply r0;apply r0)|(apply x5;apply r0)|apply w6|apply w7|apply wa|apply w5
    refine s_gsplit rfl rfl (fun g7 => ?_) (fun g7 => ?_)<;>first|replace g7:=not_t g7|replace g7:=not_f g7
    · repeat first|(apply x1;apply r0;apply r0)|apply w4|(apply w3;apply r0;apply r0)|apply wd|apply w5
      exact rt1 (H' := H) rfl rfl (.refl _) (by repeat first|exact s0|(apply su1;assumption)) hK
    have g7' : d = 0 := g7
    subst g7'
    obtain ⟨j, hj1, hj2, hj3, -⟩ := hZ rfl
    have hz : z = T.stat j := congrArg Prod.fst hj2
    subst hz
    repeat first|(apply x1;apply r0;apply r0)|(apply x2;apply r0;(with_reducible repeat first|assumption|apply q0|apply q3);apply r0)|(apply x5;apply r0)
    refine s_gsplit rfl rfl (fun g8 => ?_) (fun g8 => ?_)<;>first|replace g8:=not_t g8|replace g8:=not_f g8
    · repeat first|(apply x1;apply r0;apply r0)|apply w4|(apply w3;apply r0;apply r0)|apply wd|apply w5
      exact rt1 (H' := H) rfl rfl (.refl _) (by repeat first|exact s0|(apply su1;assumption)) hK
    have hij : j = i := by rw [← hj3, ← hi3]; omega
    subst hij
    repeat first|(apply x2;apply r0;(with_reducible repeat first|assumption|apply q0|apply q3);apply r0)|(apply x5;apply r0)
    refine s_eqagg (r := true) tk rfl (.inl rfl) rfl rfl rfl (by kernel_rfl) (by exact congrArg some (statEq (T.stat j))) ?_
    repeat first|(apply x1;apply r0;apply r0)|apply w4|apply wd|apply w5
    exact rt1 (H' := H) rfl rfl (.refl _) (by repeat first|exact s0|(apply su1;assumption)) hK
  repeat first|(apply gO;first|(apply x1;apply r0;apply r0)|(apply x5;apply r0)|apply w4|(apply w3;apply r0;apply r0))|(apply gW;first|apply w6|apply w7|(apply w9;apply r0)|apply wa)|apply w5
  refine s_gsplit rfl rfl (fun g7 => ?_) (fun g7 => ?_)<;>first|replace g7:=not_t g7|replace g7:=not_f g7
  · repeat first|(apply x1;apply r0;apply r0)|apply w4|(apply w3;apply r0;apply r0)|apply wd|apply w5
    exact rt1 (H' := H) rfl rfl (.refl _) (by repeat first|exact s0|(apply su1;assumption)) hK
  have g7' : d = 0 := g7
  subst g7'
  obtain ⟨j, hj1, hj2, hj3, -⟩ := hZ rfl
  have hz : z = T.stat j := congrArg Prod.fst hj2
  subst hz
  repeat first|(apply x1;apply r0;apply r0)|(apply x2;apply r0;(with_reducible repeat first|assumption|apply q0|apply q3);apply r0)|(apply x5;apply r0)
  refine s_gsplit rfl rfl (fun g8 => ?_) (fun g8 => ?_)<;>first|replace g8:=not_t g8|replace g8:=not_f g8
  · repeat first|(apply x1;apply r0;apply r0)|apply w4|(apply w3;apply r0;apply r0)|apply wd|apply w5
    exact rt1 (H' := H) rfl rfl (.refl _) (by repeat first|exact s0|(apply su1;assumption)) hK
  have hij : j = i := by rw [← hj3, ← hi3]; omega
  subst hij
  repeat first|(apply x2;apply r0;(with_reducible repeat first|assumption|apply q0|apply q3);apply r0)|(apply x5;apply r0)
  refine s_eqagg (r := true) tk rfl (.inl rfl) rfl rfl rfl (by kernel_rfl) (by exact congrArg some (statEq (T.stat j))) ?_
  repeat first|(apply x1;apply r0;apply r0)|apply w4|apply wd|apply w5
  exact rt1 (H' := H) rfl rfl (.refl _) (by repeat first|exact s0|(apply su1;assumption)) hK
end Abs
end Go.Proofs.YtkopeigfjjbajaaGreat
