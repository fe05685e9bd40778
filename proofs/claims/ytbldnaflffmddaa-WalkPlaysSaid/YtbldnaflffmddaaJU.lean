import Derived.Test.YtbldnaflffmddaaJT
import Derived.Test.YtbldnaflffmddaaJL
set_option linter.unusedVariables false
namespace Go.Proofs.Ytbldnaflffmddaa
namespace Abs
set_option linter.unusedSimpArgs false
set_option maxRecDepth 10000
set_option maxHeartbeats 2000000
attribute [local irreducible] AOps AW AP ACalls thenQ inBlk noGoto

/-! ### WalkPlays: what is done -/
structure Act20 where
  kd : Int
  st : Int × Int × Int × Int × Int × Int × Int
  names : List ByteArray
def encA20 (a : Act20) : List AVal := [.sc (.int .u8 a.kd), .i a.st.1, .i a.st.2.1, .i a.st.2.2.1, .i a.st.2.2.2.1, .i a.st.2.2.2.2.1, .i a.st.2.2.2.2.2.1, .i a.st.2.2.2.2.2.2, .sl (encStrs a.names) .no]
def encA20s (l : List Act20) : List (List AVal) := l.map encA20
theorem a20_len (l : List Act20) : (encA20s l).length = l.length := by simp [encA20s]
theorem a20_get (l : List Act20) (k : Nat) (h : k < l.length) : (encA20s l)[(k : Int).toNat]? = some (encA20 l[k]) := by simp [encA20s, h]
def fewA (a : Act20) : Prop := a.names.length ≤ 12 ∧ ∀ s ∈ a.names, s.size ≤ 40
theorem few20_c {l : List Act20} {o : Own} (hl : l.length ≤ 9223372036854775807) (hn : ∀ a ∈ l, a.names.length ≤ 9223372036854775807) {H : AHeap} {K : AVal → AHeap → Prop} (hK : ∀ q : Bool, (q = true → l.length ≤ 40 ∧ ∀ a ∈ l, fewA a) → K (.b q) H) : ACalls Try.prog 15 [.sl (encA20s l) o] H K := by
  refine acalls_body Try.func15 rfl rfl rfl ?_
  have ll := a20_len l
  repeat first|(apply x1;apply r0;apply r0)|apply w4|apply w6|apply w7|apply wb|apply w5
  refine aw_loop (fun k : Nat => k ≤ l.length ∧ ∀ j (h : j < l.length), j < k → fewA l[j]) (fun k => [(0, .sl (encA20s l) o), (3, .i k)]) (fun _ => H) (fun k => l.length - k) 0 ⟨Nat.zero_le _, fun j _ h => absurd h (Nat.not_lt_zero _)⟩ (by repeat (first | exact Fr.sub_nil _ | refine Fr.sub_cons rfl ?_)) (AHeap.sub_refl _) ?_
  rintro k ⟨hk, hall⟩
  repeat first|(apply x1;apply r0;apply r0)|apply w4|apply w6|apply w7|apply w5
  refine aw_cond rfl (fun c1 => ?_) (fun c1 => ?_)<;>first|replace c1:=of_decide_eq_true c1|replace c1:=of_decide_eq_false c1
  case refine_2 =>
    have hfew : ∀ r ∈ l, fewA r := fun r hr => by
      obtain ⟨j, hj, rfl⟩ := List.mem_iff_getElem.1 hr
      exact hall j hj (by omega)
    repeat first|(apply gO;first|(apply x1;apply r0;apply r0)|apply w4)|(apply gW;first|apply w6|apply w7|apply wd|apply wc)|apply w5|apply wf|apply wh
    exact rt1 (H' := H) rfl rfl (.refl _) s0 (hK _ (fun q => ⟨by have := of_decide_eq_true q; omega, hfew⟩))
  have c1' : k < l.length := by omega
  have hget := a20_get l k c1'
  have hnk := hn l[k] (List.getElem_mem c1')
  have hstep : fewA l[k] → ∀ j (h : j < l.length), j < k + 1 → fewA l[j] := fun hf j h hj => by
    rcases Nat.lt_or_ge j k with h2 | h2
    · exact hall j h h2
    · have : j = k := by omega
      subst this; exact hf
  clear hall
  generalize l[k] = a at hget hnk hstep
  have lns := strs_len a.names
  repeat first|(apply x1;apply r0;apply r0)|apply w6|apply w7|apply wa|apply wb|apply w5
  refine s_index tk rfl rfl rfl rfl (by omega) hget rfl ?_
  repeat first|(apply x1;apply r0;apply r0)|(apply x3;apply r0)|apply w4|apply w5
  refine aw_cond rfl (fun c2 => ?_) (fun c2 => ?_)<;>first|replace c2:=of_decide_eq_true c2|replace c2:=of_decide_eq_false c2
  · repeat first|(apply gO;first|(apply x1;apply r0;apply r0)|apply w4)|(apply gW;first|apply w6|apply w7|apply wd)|apply w5|apply we|apply wj
    exact rt1 (H' := H) rfl rfl (.refl _) s0 (hK false (fun q => by cases q))
  repeat first|(apply x1;apply r0;apply r0)|apply w4|apply w6|apply w7|apply wa|apply wb|apply w5
  refine aw_loop (fun j : Nat => j ≤ a.names.length ∧ ∀ i (h : i < a.names.length), i < j → a.names[i].size ≤ 40) (fun j => [(0, .sl (encA20s l) o), (3, .i k), (4, .i j)]) (fun _ => H) (fun j => a.names.length - j) 0 ⟨Nat.zero_le _, fun j _ h => absurd h (Nat.not_lt_zero _)⟩ (by repeat (first | exact Fr.sub_nil _ | refine Fr.sub_cons rfl ?_)) (AHeap.sub_refl _) ?_
  rintro j ⟨hj, hall2⟩
  repeat first|(apply x1;apply r0;apply r0)|apply w6|apply w7
  refine s_index tk rfl rfl rfl rfl (by omega) hget rfl ?_
  repeat first|(apply x1;apply r0;apply r0)|(apply x3;apply r0)|apply w4|apply w5
  refine aw_cond rfl (fun c3 => ?_) (fun c3 => ?_)<;>first|replace c3:=of_decide_eq_true c3|replace c3:=of_decide_eq_false c3
  case refine_2 =>
    have hfw : fewA a := ⟨by omega, fun s hs => by
      obtain ⟨i, hi, rfl⟩ := List.mem_iff_getElem.1 hs
      exact hall2 i hi (by omega)⟩
    repeat first|(apply gO;first|(apply x1;apply r0;apply r0)|apply w4|(apply x6;apply r0;omega))|(apply gW;first|apply w7|apply wc)|apply w5|apply wg|apply wf|apply wh
    exact ⟨k + 1, ⟨c1', hstep hfw⟩, by omega, (by repeat (first | exact Fr.sub_nil _ | refine Fr.sub_cons rfl ?_)), AHeap.sub_refl _⟩
  have c3' : j < a.names.length := by omega
  have hget2 := strs_get a.names j c3'
  repeat first|(apply x1;apply r0;apply r0)|apply w6|apply w7|apply wa|apply wb|apply w5
  refine s_index tk rfl rfl rfl rfl (by omega) hget rfl ?_
  repeat first|(apply x1;apply r0;apply r0)|(apply x3;apply r0)
  refine s_index tk rfl rfl rfl rfl (by omega) hget2 rfl ?_
  repeat first|(apply x1;apply r0;apply r0)|(apply x3;apply r0)|apply w4|apply w5
  refine aw_cond rfl (fun c4 => ?_) (fun c4 => ?_)<;>first|replace c4:=of_decide_eq_true c4|replace c4:=of_decide_eq_false c4
  · repeat first|(apply gO;first|(apply x1;apply r0;apply r0)|apply w4)|(apply gW;first|apply w6|apply w7|apply wd)|apply w5|apply we|apply wj
    exact rt1 (H' := H) rfl rfl (.refl _) s0 (hK false (fun q => by cases q))
  repeat first|(apply x1;apply r0;apply r0)|apply w4|(apply x6;apply r0;omega)|apply w7|apply wa|apply w5|apply wg
  refine ⟨j + 1, ⟨c3', fun i hi hij => ?_⟩, by omega, (by repeat (first | exact Fr.sub_nil _ | refine Fr.sub_cons rfl ?_)), s0⟩
  rcases Nat.lt_or_ge i j with h | h
  · exact hall2 i hi h
  · have : i = j := by omega
    subst this
    omega
theorem wnext_nil {H : AHeap} {K : AVal → AHeap → Prop} (hK : K (.tup [.agg (encItm Itm.zero), .b false]) H) : ACalls Try.prog 12 [.nilp] H K := by
  refine acalls_body Try.func12 rfl rfl rfl ?_
  repeat first|apply w6|apply w7
  refine s_alloc tk rfl rfl rfl (fun b2 hb2 => ?_); have hb := hb2; (try simp only [put_none_iff, prot_none_iff] at hb); (repeat obtain ⟨_, _, hb⟩ := hb)
  repeat first|(apply x1;apply r0;apply r0)|(apply x9;apply r0)|apply w4|apply w6|apply w7|apply w5
  refine left_nil ?_
  repeat first|(apply gO;first|(apply x1;apply r0;apply r0)|(apply xst;apply r0;(apply ps);apply r0)|(apply xbd;apply r0)|apply w4)|(apply gW;first|apply w6|apply w7|(apply w8;apply r0)|apply wd)|apply w5|apply we
  exact rt2c (H' := H) rfl rfl (by apply q0) rfl (by rfl) rfl (by exact .refl _) (by repeat first|exact s0|(apply su1;assumption)) hK
theorem wenter_nil {names : List ByteArray} {o0 : Own} {H : AHeap} {K : AVal → AHeap → Prop} (hK : K (.tup []) H) : ACalls Try.prog 13 [.nilp, .sl (encStrs names) o0] H K := by
  refine acalls_body Try.func13 rfl rfl rfl ?_
  repeat first|(apply gO;first|(apply x1;apply r0;apply r0)|apply w4|(apply w3;apply r0;apply r0))|(apply gW;first|apply w6|apply w7|(apply w8;apply r0)|apply wd)|apply w5|apply we
  exact rt0 rfl (AHeap.sub_refl _) hK
end Abs
end Go.Proofs.Ytbldnaflffmddaa
