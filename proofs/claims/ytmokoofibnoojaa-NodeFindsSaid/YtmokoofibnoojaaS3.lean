import Derived.Test.YtmokoofibnoojaaS1
set_option linter.unusedVariables false
namespace Go.Proofs.Ytmokoofibnoojaa
namespace Abs
set_option maxRecDepth 10000
attribute [local irreducible] AOps AW ACalls thenQ inBlk noGoto

def encInts (l : List Int) : List (List AVal) := l.map fun n => [.i n]
theorem ints_len (l : List Int) : (encInts l).length = l.length := by simp [encInts]
theorem index_c {l : List Int} {o : Own} {n : Int} {H : AHeap} {K : AVal → AHeap → Prop} (hl : l.length ≤ 9223372036854775807) (hK : ∀ r : Int, decide (0 ≤ r) = l.contains n → K (.i r) H) : ACalls Try.prog 149 [.sl (encInts l) o, .i n] H K := by
  refine acalls_body Try.func149 rfl rfl rfl ?_
  have ll := ints_len l
  repeat (first|(apply w1;apply rfl;apply rfl)|(apply w2;apply rfl)|(apply w3;apply rfl;apply rfl)|apply w4|apply w5|apply w6|apply w7|(apply w8;apply rfl)|(apply w9;apply rfl)|apply wa|apply wd|apply we|apply wb|apply wc|apply wf|apply wg|apply wh|(apply wi;apply rfl)|apply wj|apply wk|apply wl|apply wm|apply wn)
  refine aw_loop (fun k : Nat => k ≤ l.length ∧ ∀ j (h : j < l.length), j < k → l[j] ≠ n) (fun k => [(0, .sl (encInts l) o), (1, .i n), (7, .i (encInts l).length), (8, .i k)]) (fun _ => H) (fun k => l.length - k) 0 ⟨Nat.zero_le _, fun j _ h => absurd h (Nat.not_lt_zero _)⟩
    (Fr.sub_cons rfl (Fr.sub_cons rfl (Fr.sub_cons rfl (Fr.sub_cons rfl (Fr.sub_nil _))))) (AHeap.sub_refl _) ?_
  intro k ⟨hk, hall⟩
  repeat (first|(apply w1;apply rfl;apply rfl)|(apply w2;apply rfl)|(apply w3;apply rfl;apply rfl)|apply w4|apply w5|apply w6|apply w7|(apply w8;apply rfl)|(apply w9;apply rfl)|apply wa|apply wd|apply we|apply wb|apply wc|apply wf|apply wg|apply wh|(apply wi;apply rfl)|apply wj|apply wk|apply wl|apply wm|apply wn)
  refine aw_cond rfl (fun g => ?_) (fun g => ?_)
  · have g' : k < l.length := by have := of_decide_eq_true g; omega
    repeat (first|(apply w1;apply rfl;apply rfl)|(apply w2;apply rfl)|(apply w3;apply rfl;apply rfl)|apply w4|apply w5|apply w6|apply w7|(apply w8;apply rfl)|(apply w9;apply rfl)|apply wa|apply wd|apply we|apply wb|apply wc|apply wf|apply wg|apply wh|(apply wi;apply rfl)|apply wj|apply wk|apply wl|apply wm|apply wn)
    refine s_index tk rfl rfl rfl rfl (by omega) (show (encInts l)[(k : Int).toNat]? = some [.i l[k]] by simp [encInts, g']) rfl ?_
    repeat (first|(apply w1;apply rfl;apply rfl)|(apply w2;apply rfl)|(apply w3;apply rfl;apply rfl)|apply w4|apply w5|apply w6|apply w7|(apply w8;apply rfl)|(apply w9;apply rfl)|apply wa|apply wd|apply we|apply wb|apply wc|apply wf|apply wg|apply wh|(apply wi;apply rfl)|apply wj|apply wk|apply wl|apply wm|apply wn|(apply s_load tk;apply rfl;apply rfl;(assumption);apply rfl;apply rfl)|(apply s_ept tk;apply rfl;apply rfl;apply rfl;apply rfl))
    refine aw_cond rfl (fun e => ?_) (fun e => ?_)
    · have he : n = l[k] := of_decide_eq_true e
      repeat (first|(apply w1;apply rfl;apply rfl)|(apply w2;apply rfl)|(apply w3;apply rfl;apply rfl)|apply w4|apply w5|apply w6|apply w7|(apply w8;apply rfl)|(apply w9;apply rfl)|apply wa|apply wd|apply we|apply wb|apply wc|apply wf|apply wg|apply wh|(apply wi;apply rfl)|apply wj|apply wk|apply wl|apply wm|apply wn)
      refine rt1 rfl rfl (.refl _) (AHeap.sub_refl _) (hK _ ?_)
      rw [decide_eq_true (show (0 : Int) ≤ k by omega)]
      symm
      rw [List.contains_iff_mem, he]
      exact List.getElem_mem _
    · have he : ¬ n = l[k] := of_decide_eq_false e
      repeat (first|(apply w1;apply rfl;apply rfl)|(apply w2;apply rfl)|(apply w3;apply rfl;apply rfl)|apply w4|apply w5|apply w6|apply w7|(apply w8;apply rfl)|(apply w9;apply rfl)|apply wa|apply wd|apply we|apply wb|apply wc|apply wf|apply wg|apply wh|(apply wi;apply rfl)|apply wj|apply wk|apply wl|apply wm|apply wn)
      refine s_add rfl rfl rfl (by omega) ?_
      repeat (first|(apply w1;apply rfl;apply rfl)|(apply w2;apply rfl)|(apply w3;apply rfl;apply rfl)|apply w4|apply w5|apply w6|apply w7|(apply w8;apply rfl)|(apply w9;apply rfl)|apply wa|apply wd|apply we|apply wb|apply wc|apply wf|apply wg|apply wh|(apply wi;apply rfl)|apply wj|apply wk|apply wl|apply wm|apply wn)
      refine ⟨k + 1, ⟨g', fun j hj hjk => ?_⟩, by omega, Fr.sub_cons rfl (Fr.sub_cons rfl (Fr.sub_cons rfl (Fr.sub_cons rfl (Fr.sub_nil _)))), AHeap.sub_refl _⟩
      rcases Nat.lt_or_ge j k with h | h
      · exact hall j hj h
      · have : j = k := by omega
        subst this; exact fun e => he e.symm
  · have hke : k = l.length := by have := of_decide_eq_false g; omega
    subst hke
    repeat (first|(apply w1;apply rfl;apply rfl)|(apply w2;apply rfl)|(apply w3;apply rfl;apply rfl)|apply w4|apply w5|apply w6|apply w7|(apply w8;apply rfl)|(apply w9;apply rfl)|apply wa|apply wd|apply we|apply wb|apply wc|apply wf|apply wg|apply wh|(apply wi;apply rfl)|apply wj|apply wk|apply wl|apply wm|apply wn)
    refine rt1 rfl rfl (.refl _) (AHeap.sub_refl _) (hK _ ?_)
    rw [decide_eq_false (show ¬ (0 : Int) ≤ -1 by decide)]
    symm
    refine Bool.eq_false_iff.2 fun h => ?_
    rw [List.contains_iff_mem] at h
    obtain ⟨j, hj, e⟩ := List.getElem_of_mem h
    exact hall j hj hj e
theorem contains_c {l : List Int} {o : Own} {n : Int} {H : AHeap} {K : AVal → AHeap → Prop} (hl : l.length ≤ 9223372036854775807) (hK : K (.b (l.contains n)) H) : ACalls Try.prog 138 [.sl (encInts l) o, .i n] H K := by
  refine acalls_body Try.func138 rfl rfl rfl ?_
  repeat (first|(apply w1;apply rfl;apply rfl)|(apply w2;apply rfl)|(apply w3;apply rfl;apply rfl)|apply w4|apply w5|apply w6|apply w7|(apply w8;apply rfl)|(apply w9;apply rfl)|apply wa|apply wd|apply we|apply wb|apply wc|apply wf|apply wg|apply wh|(apply wi;apply rfl)|apply wj|apply wk|apply wl|apply wm|apply wn)
  refine s_call rfl rfl fk149 ?_
  refine index_c hl (fun r hr => ?_)
  rw [← hr] at hK
  repeat (first|(apply w1;apply rfl;apply rfl)|(apply w2;apply rfl)|(apply w3;apply rfl;apply rfl)|apply w4|apply w5|apply w6|apply w7|(apply w8;apply rfl)|(apply w9;apply rfl)|apply wa|apply wd|apply we|apply wb|apply wc|apply wf|apply wg|apply wh|(apply wi;apply rfl)|apply wj|apply wk|apply wl|apply wm|apply wn)
  exact rt1 rfl rfl (.refl _) (AHeap.sub_refl _) hK

def Tab.rooted (T : Tab) : Nat → Int → Bool
  | 0, _ => false
  | n + 1, i => if i = 1 then true else T.rooted n (T.parent i)
def Tab.rightStep (T : Tab) (op : List Int) (k : Nat) (r : Bool) : Bool :=
  (r && (T.get (k + 1)).ents.all fun e => T.has e.node) &&
    (if (k : Int) + 1 = 1 then true else if (T.get (k + 1)).kind = 2 then decide (T.links (k + 1) = 1) && T.rooted 24 (k + 1) else decide (T.links (k + 1) > 0) || op.contains ((k : Int) + 1))
def Tab.rightTo (T : Tab) (op : List Int) (r0 : Bool) : Nat → Bool
  | 0 => r0
  | k + 1 => if T.has (k + 1) then T.rightStep op k (T.rightTo op r0 k) else T.rightTo op r0 k
def Tab.right (T : Tab) (op : List Int) : Bool := T.rightTo op (T.has 1 && decide ((T.get 1).kind = 2) && decide (T.links 1 = 0)) T.room.toNat

end Abs
end Go.Proofs.Ytmokoofibnoojaa
