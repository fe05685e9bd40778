import Derived.Test.YtpifnlodilcgkaaX7
set_option linter.unusedVariables false
namespace Go.Proofs.Ytpifnlodilcgkaa
namespace Abs
set_option linter.unusedSimpArgs false
set_option maxRecDepth 10000
set_option maxHeartbeats 2000000
attribute [local irreducible] AOps AW AP ACalls thenQ inBlk noGoto

/-! ### chapter 10: few -/
theorem few10_c {l : List Raw} (hl : l.length ≤ 9223372036854775807) {o : Own} {H : AHeap} {K : AVal → AHeap → Prop} (hK : ∀ q : Bool, (q = true → l.length ≤ 50 ∧ ∀ r ∈ l, r.few) → K (.b q) H) : ACalls Try.prog 23 [.sl (encRaws l) o] H K := by
  refine acalls_body Try.func23 rfl rfl rfl ?_
  have ll := raws_len l
  repeat first|(apply x1;apply r0;apply r0)|apply w4|apply w6|apply w7|apply wb|apply w5
  refine aw_loop (fun k : Nat => k ≤ l.length ∧ ∀ j (h : j < l.length), j < k → l[j].few) (fun k => [(0, .sl (encRaws l) o), (3, .i k)]) (fun _ => H) (fun k => l.length - k) 0 ⟨Nat.zero_le _, fun j _ h => absurd h (Nat.not_lt_zero _)⟩ (by repeat (first | exact Fr.sub_nil _ | refine Fr.sub_cons rfl ?_)) (AHeap.sub_refl _) ?_
  rintro k ⟨hk, hall⟩
  repeat first|(apply x1;apply r0;apply r0)|apply w4|apply w6|apply w7|apply w5
  refine aw_cond rfl (fun c1 => ?_) (fun c1 => ?_)<;>first|replace c1:=of_decide_eq_true c1|replace c1:=of_decide_eq_false c1
  case refine_2 =>
    have hfew : ∀ r ∈ l, r.few := fun r hr => by
      obtain ⟨j, hj, rfl⟩ := List.mem_iff_getElem.1 hr
      exact hall j hj (by omega)
    repeat first|(apply gO;first|(apply x1;apply r0;apply r0)|apply w4)|(apply gW;first|apply w6|apply w7|apply wd|apply wc)|apply w5|apply wf|apply wh
    exact rt1 (H' := H) rfl rfl (.refl _) s0 (hK _ (fun q => ⟨by have := of_decide_eq_true q; omega, hfew⟩))
  have c1' : k < l.length := by omega
  have hget : (encRaws l)[(k : Int).toNat]? = some (encRaw l[k]) := by simp [encRaws, c1']
  have lb := encBytes_len l[k].data
  repeat first|(apply x1;apply r0;apply r0)|apply w6|apply w7|apply wa|apply wb|apply w5
  refine s_index tk rfl rfl rfl rfl (by omega) hget rfl ?_
  repeat first|(apply x1;apply r0;apply r0)|(apply x3;apply r0)
  refine s_gsplit rfl rfl (fun g3 => ?_) (fun g3 => ?_)<;>first|replace g3:=of_decide_eq_true g3|replace g3:=of_decide_eq_false g3
  · repeat first|(apply gO;first|(apply x1;apply r0;apply r0)|apply w4|(apply w3;apply r0;apply r0))|(apply gW;first|apply w6|apply w7|(apply w8;apply r0)|apply wd)|apply w5|apply we|apply wj
    exact rt1 (H' := H) rfl rfl (.refl _) s0 (hK false (fun q => by cases q))
  repeat first|(apply x1;apply r0;apply r0)|(apply x5;apply r0)
  refine s_index tk rfl rfl rfl rfl (by omega) hget rfl ?_
  repeat first|(apply x1;apply r0;apply r0)|(apply x3;apply r0)|(apply x5;apply r0)
  refine s_gsplit rfl rfl (fun g4 => ?_) (fun g4 => ?_)<;>first|replace g4:=of_decide_eq_true g4|replace g4:=of_decide_eq_false g4
  · repeat first|(apply gO;first|(apply x1;apply r0;apply r0)|apply w4|(apply w3;apply r0;apply r0))|(apply gW;first|apply w6|apply w7|(apply w8;apply r0)|apply wd)|apply w5|apply we|apply wj
    exact rt1 (H' := H) rfl rfl (.refl _) s0 (hK false (fun q => by cases q))
  repeat first|(apply x1;apply r0;apply r0)|(apply x5;apply r0)
  refine s_index tk rfl rfl rfl rfl (by omega) hget rfl ?_
  repeat first|(apply x1;apply r0;apply r0)|(apply x3;apply r0)|(apply x5;apply r0)|apply w4|apply w5
  refine aw_cond rfl (fun g5 => ?_) (fun g5 => ?_)<;>first|replace g5:=of_decide_eq_true g5|replace g5:=of_decide_eq_false g5
  · repeat first|(apply gO;first|(apply x1;apply r0;apply r0)|apply w4)|(apply gW;first|apply w6|apply w7|apply wd)|apply w5|apply we|apply wj
    exact rt1 (H' := H) rfl rfl (.refl _) s0 (hK false (fun q => by cases q))
  repeat first|(apply x1;apply r0;apply r0)|apply w4|(apply x6;apply r0;omega)|apply w7|apply wa|apply w5|apply wg
  refine ⟨k + 1, ⟨c1', fun j hj hjk => ?_⟩, by omega, (by repeat (first | exact Fr.sub_nil _ | refine Fr.sub_cons rfl ?_)), s0⟩
  rcases Nat.lt_or_ge j k with h | h
  · exact hall j hj h
  · have : j = k := by omega
    subst this
    exact ⟨by omega, by omega, by omega⟩
end Abs
end Go.Proofs.Ytpifnlodilcgkaa
