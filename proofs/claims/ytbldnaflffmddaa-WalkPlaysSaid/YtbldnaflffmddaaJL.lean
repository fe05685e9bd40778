import Derived.Test.YtbldnaflffmddaaJK
import Derived.Test.YtbldnaflffmddaaJI
set_option linter.unusedVariables false
namespace Go.Proofs.Ytbldnaflffmddaa
namespace Abs
set_option linter.unusedSimpArgs false
set_option maxRecDepth 10000
set_option maxHeartbeats 2000000
attribute [local irreducible] AOps AW AP ACalls thenQ inBlk noGoto

/-! ### WalkReports -/
theorem short_c {l : List ByteArray} {o : Own} (hl : l.length ≤ 9223372036854775807) {H : AHeap} {K : AVal → AHeap → Prop} (hK : ∀ q : Bool, (q = true → l.length ≤ 20 ∧ ∀ s ∈ l, s.size ≤ 60) → K (.b q) H) : ACalls Try.prog 10 [.sl (encStrs l) o] H K := by
  refine acalls_body Try.func10 rfl rfl rfl ?_
  have ll := strs_len l
  repeat first|(apply x1;apply r0;apply r0)|apply w4|apply w6|apply w7|apply wb|apply w5
  refine aw_loop (fun k : Nat => k ≤ l.length ∧ ∀ j (h : j < l.length), j < k → l[j].size ≤ 60) (fun k => [(0, .sl (encStrs l) o), (3, .i k)]) (fun _ => H) (fun k => l.length - k) 0 ⟨Nat.zero_le _, fun j _ h => absurd h (Nat.not_lt_zero _)⟩ (by repeat (first | exact Fr.sub_nil _ | refine Fr.sub_cons rfl ?_)) (AHeap.sub_refl _) ?_
  rintro k ⟨hk, hall⟩
  repeat first|(apply x1;apply r0;apply r0)|apply w4|apply w6|apply w7|apply w5
  refine aw_cond rfl (fun c1 => ?_) (fun c1 => ?_)<;>first|replace c1:=of_decide_eq_true c1|replace c1:=of_decide_eq_false c1
  case refine_2 =>
    have hfew : ∀ r ∈ l, r.size ≤ 60 := fun r hr => by
      obtain ⟨j, hj, rfl⟩ := List.mem_iff_getElem.1 hr
      exact hall j hj (by omega)
    repeat first|(apply gO;first|(apply x1;apply r0;apply r0)|apply w4)|(apply gW;first|apply w6|apply w7|apply wd|apply wc)|apply w5|apply wf|apply wh
    exact rt1 (H' := H) rfl rfl (.refl _) s0 (hK _ (fun q => ⟨by have := of_decide_eq_true q; omega, hfew⟩))
  have c1' : k < l.length := by omega
  have hget := strs_get l k c1'
  repeat first|(apply x1;apply r0;apply r0)|apply w6|apply w7|apply wa|apply wb|apply w5
  refine s_index tk rfl rfl rfl rfl (by omega) hget rfl ?_
  repeat first|(apply x1;apply r0;apply r0)|(apply x3;apply r0)|apply w4|apply w5
  refine aw_cond rfl (fun c2 => ?_) (fun c2 => ?_)<;>first|replace c2:=of_decide_eq_true c2|replace c2:=of_decide_eq_false c2
  · repeat first|(apply gO;first|(apply x1;apply r0;apply r0)|apply w4)|(apply gW;first|apply w6|apply w7|apply wd)|apply w5|apply we|apply wj
    exact rt1 (H' := H) rfl rfl (.refl _) s0 (hK false (fun q => by cases q))
  repeat first|(apply x1;apply r0;apply r0)|apply w4|(apply x6;apply r0;omega)|apply w7|apply wa|apply w5|apply wg
  refine ⟨k + 1, ⟨c1', fun j hj hjk => ?_⟩, by omega, (by repeat (first | exact Fr.sub_nil _ | refine Fr.sub_cons rfl ?_)), s0⟩
  rcases Nat.lt_or_ge j k with h | h
  · exact hall j hj h
  · have : j = k := by omega
    subst this
    omega
end Abs
end Go.Proofs.Ytbldnaflffmddaa
