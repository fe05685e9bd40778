import Derived.Test.YtbldnaflffmddaaT1
import Derived.Test.YtbldnaflffmddaaA10
set_option linter.unusedVariables false
namespace Go.Proofs.Ytbldnaflffmddaa
namespace Abs
set_option maxRecDepth 10000
attribute [local irreducible] AOps AW AP ACalls thenQ inBlk noGoto

/-! ### node.Same -/
instance : DecidableEq Ent := fun a b => decidable_of_iff (a.name = b.name ∧ a.node = b.node) ⟨fun h => by cases a; cases b; simp_all, fun h => by subst h; exact ⟨rfl, rfl⟩⟩
def Node.same (a b : Node) : Bool := decide (a.kind = b.kind) && decide (a.mode = b.mode) && decide (a.uid = b.uid) && decide (a.gid = b.gid) && decide (a.target = b.target) && decide (a.data = b.data) && decide (a.ents = b.ents)
theorem bytes_get (s : ByteArray) (k : Nat) (h : k < s.size) : (encBytes s)[k]? = some [.sc (.int .u8 (s.get! k).toNat)] := by
  rw [get_bang s k h]
  simp only [encBytes, List.getElem?_map]
  rw [List.getElem?_eq_getElem (by rw [Array.length_toList]; exact h)]
  rfl
theorem bytes_ext {a b : ByteArray} (hl : a.size = b.size) (h : ∀ j, j < a.size → a.get! j = b.get! j) : a = b := by
  obtain ⟨x⟩ := a
  obtain ⟨y⟩ := b
  congr 1
  apply Array.ext hl
  intro j h1 h2
  have h3 := h j h1
  rw [get_bang _ j h1, get_bang _ j (by show j < y.size; exact h2)] at h3
  simpa using h3
theorem alike_bytes {a b : ByteArray} {o o2 : Own} {H : AHeap} {K : AVal → AHeap → Prop} (ha : a.size ≤ 9223372036854775807) (hK : K (.b (decide (a = b))) H) : ACalls Try.prog 63 [.sl (encBytes a) o, .sl (encBytes b) o2] H K := by
  refine acalls_body Try.func63 rfl rfl rfl ?_
  have la := encBytes_len a
  have lb := encBytes_len b
  repeat (first|(apply w1;apply rfl;apply rfl)|apply w4|apply w5|apply w6|apply w7)
  refine aw_cond rfl (fun c => ?_) (fun c => ?_)
  · have hne : ¬ a = b := fun e => by subst e; simp at c
    rw [decide_eq_false hne] at hK
    repeat (first|(apply w1;apply rfl;apply rfl)|apply w4|apply w5|apply w6|apply w7|apply wd|apply we)
    exact rt1 rfl rfl (.refl _) (AHeap.sub_refl _) hK
  have hs : a.size = b.size := by
    have c' : ((encBytes a).length : Int) = (encBytes b).length := by simpa using c
    omega
  repeat (first|(apply w1;apply rfl;apply rfl)|apply w4|apply w5|apply w6|apply w7|apply wa|apply wb)
  refine aw_loop (fun k : Nat => k ≤ a.size ∧ ∀ j, j < k → a.get! j = b.get! j) (fun k => [(1, .sl (encBytes b) o2), (12, .sl (encBytes a) o), (13, .i (encBytes a).length), (14, .i k)]) (fun _ => H) (fun k => a.size - k) 0 ⟨Nat.zero_le _, fun j h => absurd h (Nat.not_lt_zero _)⟩
    (Fr.sub_cons rfl (Fr.sub_cons rfl (Fr.sub_cons rfl (Fr.sub_cons rfl (Fr.sub_nil _))))) (AHeap.sub_refl _) ?_
  intro k ⟨hk, hall⟩
  repeat (first|(apply w1;apply rfl;apply rfl)|apply w4|apply w5|apply w6|apply w7)
  refine aw_cond rfl (fun g => ?_) (fun g => ?_)
  · have g' : k < a.size := by have := of_decide_eq_true g; omega
    repeat (first|(apply w1;apply rfl;apply rfl)|apply w5|apply w6|apply w7|apply wa|apply wb)
    refine s_index tk rfl rfl rfl rfl (by omega) (show (encBytes a)[(k : Int).toNat]? = some [.sc (.int .u8 (a.get! k).toNat)] from bytes_get a k g') rfl ?_
    repeat (first|(apply w1;apply rfl;apply rfl)|apply w4|apply w5|apply w6|apply w7|(apply s_ept tk;apply rfl;apply rfl;apply rfl;apply rfl))
    refine s_index tk rfl rfl rfl rfl (by omega) (show (encBytes b)[(k : Int).toNat]? = some [.sc (.int .u8 (b.get! k).toNat)] from bytes_get b k (by omega)) rfl ?_
    repeat (first|(apply w1;apply rfl;apply rfl)|apply w4|apply w5|(apply s_ept tk;apply rfl;apply rfl;apply rfl;apply rfl))
    refine aw_cond rfl (fun e => ?_) (fun e => ?_)
    · have hne : ¬ a = b := fun h => by subst h; simp at e
      rw [decide_eq_false hne] at hK
      repeat (first|(apply w1;apply rfl;apply rfl)|apply w4|apply w5|apply w6|apply w7|apply wd|apply we|apply wj)
      exact rt1 rfl rfl (.refl _) (AHeap.sub_refl _) hK
    · have he : a.get! k = b.get! k := by
        have : ((a.get! k).toNat : Int) = (b.get! k).toNat := by simpa using e
        exact UInt8.toNat_inj.1 (by omega)
      repeat (first|apply w5|apply w7|apply wa|apply wg)
      refine s_add rfl rfl rfl (by omega) ?_
      repeat (first|(apply w1;apply rfl;apply rfl)|apply w4|apply w5)
      refine ⟨k + 1, ⟨g', fun j hj => ?_⟩, by omega, Fr.sub_cons rfl (Fr.sub_cons rfl (Fr.sub_cons rfl (Fr.sub_cons rfl (Fr.sub_nil _)))), AHeap.sub_refl _⟩
      rcases Nat.lt_or_ge j k with h | h
      · exact hall j h
      · have : j = k := by omega
        subst this; exact he
  · have hke : k = a.size := by have := of_decide_eq_false g; omega
    subst hke
    rw [decide_eq_true (bytes_ext hs hall)] at hK
    repeat (first|(apply w1;apply rfl;apply rfl)|apply w4|apply w5|apply w6|apply w7|apply wd|apply wc|apply wf|apply wh)
    exact rt1 rfl rfl (.refl _) (AHeap.sub_refl _) hK
theorem alike_ents {a b : List Ent} {o o2 : Own} {H : AHeap} {K : AVal → AHeap → Prop} (ha : a.length ≤ 9223372036854775807) (hK : K (.b (decide (a = b))) H) : ACalls Try.prog 64 [.sl (a.map encEnt) o, .sl (b.map encEnt) o2] H K := by
  refine acalls_body Try.func64 rfl rfl rfl ?_
  have la := ents_len a
  have lb := ents_len b
  repeat (first|(apply w1;apply rfl;apply rfl)|apply w4|apply w5|apply w6|apply w7)
  refine aw_cond rfl (fun c => ?_) (fun c => ?_)
  · have hne : ¬ a = b := fun e => by subst e; simp at c
    rw [decide_eq_false hne] at hK
    repeat (first|(apply w1;apply rfl;apply rfl)|apply w4|apply w5|apply w6|apply w7|apply wd|apply we)
    exact rt1 rfl rfl (.refl _) (AHeap.sub_refl _) hK
  have hs : a.length = b.length := by
    have c' : ((a.map encEnt).length : Int) = (b.map encEnt).length := by simpa using c
    omega
  repeat (first|(apply w1;apply rfl;apply rfl)|apply w4|apply w5|apply w6|apply w7|apply wa|apply wb)
  refine aw_loop (fun k : Nat => k ≤ a.length ∧ a.take k = b.take k) (fun k => [(1, .sl (b.map encEnt) o2), (12, .sl (a.map encEnt) o), (13, .i (a.map encEnt).length), (14, .i k)]) (fun _ => H) (fun k => a.length - k) 0 ⟨Nat.zero_le _, rfl⟩
    (Fr.sub_cons rfl (Fr.sub_cons rfl (Fr.sub_cons rfl (Fr.sub_cons rfl (Fr.sub_nil _))))) (AHeap.sub_refl _) ?_
  intro k ⟨hk, hall⟩
  repeat (first|(apply w1;apply rfl;apply rfl)|apply w4|apply w5|apply w6|apply w7)
  refine aw_cond rfl (fun g => ?_) (fun g => ?_)
  · have g' : k < a.length := by have := of_decide_eq_true g; omega
    have g2 : k < b.length := by omega
    repeat (first|(apply w1;apply rfl;apply rfl)|apply w5|apply w6|apply w7|apply wa|apply wb)
    refine s_index tk rfl rfl rfl rfl (by omega) (show (a.map encEnt)[(k : Int).toNat]? = some (encEnt a[k]) by simp [g']) rfl ?_
    skip
    refine s_epta (ds := encEnt a[k]) tk rfl rfl rfl (Nat.le_refl 2) rfl ?_
    skip
    refine s_alloc tk rfl rfl rfl (fun b6 h6 => ?_)
    repeat ((apply w1;apply rfl;apply rfl))
    refine s_storew tk rfl rfl (put_same _ _ _) rfl rfl rfl rfl ?_
    rw [put_put]
    repeat (first|apply w4|apply w5|apply w6)
    refine aw_prot [b6] (allc (.inl (put_same _ _ _)) (allc0 _)) ?_
    have hro := prot_get (bs := [b6]) (List.mem_singleton.2 rfl) (.inl (put_same H b6 (.cells (encEnt a[k]))))
    refine aw_plan mixed (.take 0 (.take 1 (.take 2 (.take 3 (.take 4 (.take 5 .done)))))) (by kernel_rfl) ?_
    skip
    refine d_roa (ds := encEnt a[k]) rfl rfl rfl rfl hro rfl (Nat.le_refl 2) rfl ?_
    repeat ((apply d1;apply rfl;apply rfl;apply rfl;apply rfl))
    refine d_index rfl rfl rfl rfl rfl rfl (by omega) (show (b.map encEnt)[(k : Int).toNat]? = some (encEnt b[k]) by simp [g2]) rfl ?_
    skip
    refine d_epta (ds := encEnt b[k]) rfl rfl rfl rfl rfl (Nat.le_refl 2) rfl ?_
    skip
    refine d_stab rfl rfl rfl (pures_eqagg (r := decide (a[k].name = b[k].name) && (decide (a[k].node = b[k].node) && true)) tk (.inr rfl) rfl rfl rfl (by kernel_rfl) rfl).stab ?_
    repeat (apply d3)
    refine prot_done ?_
    repeat (apply w5)
    refine aw_cond rfl (fun e => ?_) (fun e => ?_)
    · have hne : ¬ a = b := fun h => by subst h; simp at e
      rw [decide_eq_false hne] at hK
      repeat (first|(apply w1;apply rfl;apply rfl)|apply w4|apply w5|apply w6|apply w7|apply wd|apply we|apply wj)
      exact rt1 rfl rfl (.refl _) (sub_new h6 (AHeap.sub_refl _)) hK
    · have he : a[k] = b[k] := by
        have h1 : (a[k].name = b[k].name) ∧ (a[k].node = b[k].node) := by simpa using e
        cases hx : a[k]; cases hy : b[k]
        simp_all
      repeat (first|apply w5|apply w7|apply wa|apply wg)
      refine s_add rfl rfl rfl (by omega) ?_
      repeat (first|(apply w1;apply rfl;apply rfl)|apply w4|apply w5)
      refine ⟨k + 1, ⟨g', ?_⟩, by omega, Fr.sub_cons rfl (Fr.sub_cons rfl (Fr.sub_cons rfl (Fr.sub_cons rfl (Fr.sub_nil _)))), sub_new h6 (AHeap.sub_refl _)⟩
      rw [List.take_add_one, List.take_add_one, List.getElem?_eq_getElem g', List.getElem?_eq_getElem g2, hall, he]
  · have hke : k = a.length := by have := of_decide_eq_false g; omega
    subst hke
    have : a = b := by rw [List.take_length, hs, List.take_length] at hall; exact hall
    rw [decide_eq_true this] at hK
    repeat (first|(apply w1;apply rfl;apply rfl)|apply w4|apply w5|apply w6|apply w7|apply wd|apply wc|apply wf|apply wh)
    exact rt1 rfl rfl (.refl _) (AHeap.sub_refl _) hK
end Abs
end Go.Proofs.Ytbldnaflffmddaa

set_option linter.unusedVariables false
namespace Go.Proofs.Ytbldnaflffmddaa
namespace Abs
set_option maxRecDepth 10000
attribute [local irreducible] AOps AW AP ACalls thenQ inBlk noGoto

theorem same_c {a b : Node} {H : AHeap} {K : AVal → AHeap → Prop} (ha : a.small) (hK : K (.b (a.same b)) H) : ACalls Try.prog 51 [.agg (encNode a), .agg (encNode b)] H K := by
  refine acalls_body Try.func51 rfl rfl rfl ?_
  repeat (first|apply w6|apply w7)
  refine s_box rfl rfl rfl (fun b2 h2 => ?_)
  skip
  refine s_box rfl rfl rfl (fun b3 h3 => ?_)
  obtain ⟨n3, h3'⟩ := put_none h3
  have hr2 : Rd ((H.put b2 (.cells (encNode a))).put b3 (.cells (encNode b))) b2 (encNode a) := .inl (by rw [put_ne (Ne.symm n3), put_same])
  have hr3 : Rd ((H.put b2 (.cells (encNode a))).put b3 (.cells (encNode b))) b3 (encNode b) := .inl (put_same _ _ _)
  have hsub : H.sub ((H.put b2 (.cells (encNode a))).put b3 (.cells (encNode b))) := sub_new h3' (sub_new h2 (AHeap.sub_refl _))
  have ha1 := ha.1
  have ha2 := ha.2
  generalize ((H.put b2 (.cells (encNode a))).put b3 (.cells (encNode b))) = H2 at hr2 hr3 hsub ⊢
  repeat (first|(apply w1;apply rfl;apply rfl)|apply w4|apply w5|apply w6|apply w7|(apply s_load tk;apply rfl;apply rfl;(assumption);apply rfl;apply rfl))
  refine s_gsplit rfl rfl (fun g1 => ?_) (fun g => ?_)
  case refine_2 =>
    have : a.same b = false := by simp only [Node.same, g, Bool.false_and]
    rw [this] at hK
    repeat (first|(apply w1;apply rfl;apply rfl)|(apply w3;apply rfl;apply rfl)|apply w4|apply w5|apply wd)
    exact rt1 rfl rfl (.refl _) hsub hK
  repeat (first|(apply w1;apply rfl;apply rfl)|(apply w2;apply rfl)|(apply s_load tk;apply rfl;apply rfl;(assumption);apply rfl;apply rfl))
  refine s_gsplit rfl rfl (fun g2 => ?_) (fun g => ?_)
  case refine_2 =>
    have : a.same b = false := by simp only [Node.same, g, Bool.false_and, Bool.and_false]
    rw [this] at hK
    repeat (first|(apply w1;apply rfl;apply rfl)|(apply w3;apply rfl;apply rfl)|apply w4|apply w5|apply wd)
    exact rt1 rfl rfl (.refl _) hsub hK
  repeat (first|(apply w1;apply rfl;apply rfl)|(apply w2;apply rfl)|(apply s_load tk;apply rfl;apply rfl;(assumption);apply rfl;apply rfl))
  refine s_gsplit rfl rfl (fun g3 => ?_) (fun g => ?_)
  case refine_2 =>
    have : a.same b = false := by simp only [Node.same, g, Bool.false_and, Bool.and_false]
    rw [this] at hK
    repeat (first|(apply w1;apply rfl;apply rfl)|(apply w3;apply rfl;apply rfl)|apply w4|apply w5|apply wd)
    exact rt1 rfl rfl (.refl _) hsub hK
  repeat (first|(apply w1;apply rfl;apply rfl)|(apply w2;apply rfl)|(apply s_load tk;apply rfl;apply rfl;(assumption);apply rfl;apply rfl))
  refine s_gsplit rfl rfl (fun g4 => ?_) (fun g => ?_)
  case refine_2 =>
    have : a.same b = false := by simp only [Node.same, g, Bool.false_and, Bool.and_false]
    rw [this] at hK
    repeat (first|(apply w1;apply rfl;apply rfl)|(apply w3;apply rfl;apply rfl)|apply w4|apply w5|apply wd)
    exact rt1 rfl rfl (.refl _) hsub hK
  repeat (first|(apply w1;apply rfl;apply rfl)|(apply w2;apply rfl)|(apply s_load tk;apply rfl;apply rfl;(assumption);apply rfl;apply rfl))
  refine s_gsplit rfl rfl (fun g5 => ?_) (fun g => ?_)
  case refine_2 =>
    have : a.same b = false := by simp only [Node.same, g, Bool.false_and, Bool.and_false]
    rw [this] at hK
    repeat (first|(apply w1;apply rfl;apply rfl)|(apply w3;apply rfl;apply rfl)|apply w4|apply w5|apply wd)
    exact rt1 rfl rfl (.refl _) hsub hK
  repeat (first|(apply w1;apply rfl;apply rfl)|(apply w2;apply rfl)|(apply s_load tk;apply rfl;apply rfl;(assumption);apply rfl;apply rfl))
  refine s_call rfl rfl fk63 ?_
  refine alike_bytes (by omega) ?_
  repeat ((apply w1;apply rfl;apply rfl))
  refine s_gsplit rfl rfl (fun g6 => ?_) (fun g => ?_)
  case refine_2 =>
    have : a.same b = false := by simp only [Node.same, g, Bool.false_and, Bool.and_false]
    rw [this] at hK
    repeat (first|(apply w1;apply rfl;apply rfl)|(apply w3;apply rfl;apply rfl)|apply w4|apply w5|apply wd)
    exact rt1 rfl rfl (.refl _) hsub hK
  repeat (first|(apply w1;apply rfl;apply rfl)|(apply w2;apply rfl)|(apply s_load tk;apply rfl;apply rfl;(assumption);apply rfl;apply rfl))
  refine s_call rfl rfl fk64 ?_
  refine alike_ents (by omega) ?_
  repeat (first|(apply w1;apply rfl;apply rfl)|apply w4|apply w5|apply wd)
  have : a.same b = decide (a.ents = b.ents) := by simp only [Node.same, g1, g2, g3, g4, g5, g6, Bool.true_and]
  rw [this] at hK
  exact rt1 rfl rfl (.refl _) hsub hK

def Tab.sameTo (T U : Tab) : Nat → Bool
  | 0 => true
  | k + 1 => T.sameTo U k && (T.nd k).same (U.nd k)
def Tab.same (T U : Tab) : Bool := T.sameTo U 24
theorem sameTo_le {T U : Tab} {k : Nat} (h : T.sameTo U (k + 1) = false) : ∀ m : Nat, k < m → T.sameTo U m = false
  | 0, h' => absurd h' (Nat.not_lt_zero _)
  | m + 1, h' => by
    rcases Nat.lt_or_ge k m with h2 | h2
    · simp only [Tab.sameTo, sameTo_le h m h2, Bool.false_and]
    · have : m = k := by omega
      subst this; exact h
theorem tsame_c {t u : Nat} {T U : Tab} (hT : T.wf) (hU : U.wf) {H : AHeap} (ht : Rd H t (encTab T)) (hu : Rd H u (encTab U)) {K : AVal → AHeap → Prop} (hK : K (.b (T.same U)) H) : ACalls Try.prog 32 [.ptr t 0, .ptr u 0] H K := by
  refine acalls_body Try.func32 rfl rfl rfl ?_
  unfold Tab.same at hK
  repeat (first|(apply w1;apply rfl;apply rfl)|(apply w2;apply rfl)|(apply w3;apply rfl;apply rfl)|apply w4|apply w5|apply w6|apply w7|(apply w8;apply rfl)|(apply w9;apply rfl)|apply wa|apply wd|apply we|apply wb|apply wc|apply wf|apply wg|apply wh|(apply wi;apply rfl)|apply wj|apply wk|apply wl|apply wm|apply wn)
  refine aw_loop (fun k : Nat => k ≤ 24 ∧ T.sameTo U k = true) (fun k => [(0, .ptr t 0), (1, .ptr u 0), (10, .i k)]) (fun _ => H) (fun k => 24 - k) 0 ⟨by omega, rfl⟩ (Fr.sub_cons rfl (Fr.sub_cons rfl (Fr.sub_cons rfl (Fr.sub_nil _)))) (AHeap.sub_refl _) ?_
  intro k ⟨hk, hs⟩
  repeat (first|(apply w1;apply rfl;apply rfl)|(apply w2;apply rfl)|(apply w3;apply rfl;apply rfl)|apply w4|apply w5|apply w6|apply w7|(apply w8;apply rfl)|(apply w9;apply rfl)|apply wa|apply wd|apply we|apply wb|apply wc|apply wf|apply wg|apply wh|(apply wi;apply rfl)|apply wj|apply wk|apply wl|apply wm|apply wn)
  refine aw_cond rfl (fun c => ?_) (fun c => ?_)
  · have c' : k < 24 := by have := of_decide_eq_true c; omega
    repeat (first|(apply w1;apply rfl;apply rfl)|(apply w2;apply rfl)|(apply w3;apply rfl;apply rfl)|apply w4|apply w5|apply w6|apply w7|(apply w8;apply rfl)|(apply w9;apply rfl)|apply wa|apply wd|apply we|apply wb|apply wc|apply wf|apply wg|apply wh|(apply wi;apply rfl)|apply wj|apply wk|apply wl|apply wm|apply wn)
    refine s_add rfl rfl rfl (by omega) ?_
    repeat (first|(apply w1;apply rfl;apply rfl)|(apply w2;apply rfl)|(apply w3;apply rfl;apply rfl)|apply w4|apply w5|apply w6|apply w7|(apply w8;apply rfl)|(apply w9;apply rfl)|apply wa|apply wd|apply we|apply wb|apply wc|apply wf|apply wg|apply wh|(apply wi;apply rfl)|apply wj|apply wk|apply wl|apply wm|apply wn)
    refine s_call rfl rfl fk34 ?_
    refine get_c hT ht ?_
    have hn1 : (if T.has ((k : Int) + 1) = true then T.get ((k : Int) + 1) else Node.zero) = T.nd k := rfl
    rw [hn1]
    repeat (first|(apply w1;apply rfl;apply rfl)|(apply w2;apply rfl)|(apply w3;apply rfl;apply rfl)|apply w4|apply w5|apply w6|apply w7|(apply w8;apply rfl)|(apply w9;apply rfl)|apply wa|apply wd|apply we|apply wb|apply wc|apply wf|apply wg|apply wh|(apply wi;apply rfl)|apply wj|apply wk|apply wl|apply wm|apply wn)
    refine s_alloc tk rfl rfl rfl (fun b6 h6 => ?_)
    repeat (first|(apply w1;apply rfl;apply rfl)|(apply w2;apply rfl)|(apply w3;apply rfl;apply rfl)|apply w4|apply w5|apply w6|apply w7|(apply w8;apply rfl)|(apply w9;apply rfl)|apply wa|apply wd|apply we|apply wb|apply wc|apply wf|apply wg|apply wh|(apply wi;apply rfl)|apply wj|apply wk|apply wl|apply wm|apply wn)
    refine s_storew tk rfl rfl (put_same _ _ _) rfl rfl rfl rfl ?_
    rw [put_put]
    repeat (first|(apply w1;apply rfl;apply rfl)|(apply w2;apply rfl)|(apply w3;apply rfl;apply rfl)|apply w4|apply w5|apply w6|apply w7|(apply w8;apply rfl)|(apply w9;apply rfl)|apply wa|apply wd|apply we|apply wb|apply wc|apply wf|apply wg|apply wh|(apply wi;apply rfl)|apply wj|apply wk|apply wl|apply wm|apply wn)
    refine s_add rfl rfl rfl (by omega) ?_
    repeat (first|(apply w1;apply rfl;apply rfl)|(apply w2;apply rfl)|(apply w3;apply rfl;apply rfl)|apply w4|apply w5|apply w6|apply w7|(apply w8;apply rfl)|(apply w9;apply rfl)|apply wa|apply wd|apply we|apply wb|apply wc|apply wf|apply wg|apply wh|(apply wi;apply rfl)|apply wj|apply wk|apply wl|apply wm|apply wn)
    have n6 : u ≠ b6 := fun e => by rcases hu with h | h <;> (rw [e, h6] at h; cases h)
    refine s_call rfl rfl fk34 ?_
    refine get_c hU (by unfold Rd; rw [put_ne n6]; exact hu) ?_
    have hn2 : (if U.has ((k : Int) + 1) = true then U.get ((k : Int) + 1) else Node.zero) = U.nd k := rfl
    rw [hn2]
    repeat (first|(apply w1;apply rfl;apply rfl)|(apply w2;apply rfl)|(apply w3;apply rfl;apply rfl)|apply w4|apply w5|apply w6|apply w7|(apply w8;apply rfl)|(apply w9;apply rfl)|apply wa|apply wd|apply we|apply wb|apply wc|apply wf|apply wg|apply wh|(apply wi;apply rfl)|apply wj|apply wk|apply wl|apply wm|apply wn)
    refine s_alloc tk rfl rfl rfl (fun b8 h8 => ?_)
    obtain ⟨n8, h8'⟩ := put_none h8
    repeat (first|(apply w1;apply rfl;apply rfl)|(apply w2;apply rfl)|(apply w3;apply rfl;apply rfl)|apply w4|apply w5|apply w6|apply w7|(apply w8;apply rfl)|(apply w9;apply rfl)|apply wa|apply wd|apply we|apply wb|apply wc|apply wf|apply wg|apply wh|(apply wi;apply rfl)|apply wj|apply wk|apply wl|apply wm|apply wn)
    refine s_storew tk rfl rfl (put_same _ _ _) rfl rfl rfl rfl ?_
    rw [put_put]
    repeat (first|(apply w1;apply rfl;apply rfl)|(apply w2;apply rfl)|(apply w3;apply rfl;apply rfl)|apply w4|apply w5|apply w6|apply w7|(apply w8;apply rfl)|(apply w9;apply rfl)|apply wa|apply wd|apply we|apply wb|apply wc|apply wf|apply wg|apply wh|(apply wi;apply rfl)|apply wj|apply wk|apply wl|apply wm|apply wn)
    refine s_loadw tk rfl rfl (.inl (by rw [put_ne (Ne.symm n8), put_same])) rfl rfl ?_
    repeat (first|(apply w1;apply rfl;apply rfl)|(apply w2;apply rfl)|(apply w3;apply rfl;apply rfl)|apply w4|apply w5|apply w6|apply w7|(apply w8;apply rfl)|(apply w9;apply rfl)|apply wa|apply wd|apply we|apply wb|apply wc|apply wf|apply wg|apply wh|(apply wi;apply rfl)|apply wj|apply wk|apply wl|apply wm|apply wn)
    refine s_loadw tk rfl rfl (.inl (put_same _ _ _)) rfl rfl ?_
    repeat (first|(apply w1;apply rfl;apply rfl)|(apply w2;apply rfl)|(apply w3;apply rfl;apply rfl)|apply w4|apply w5|apply w6|apply w7|(apply w8;apply rfl)|(apply w9;apply rfl)|apply wa|apply wd|apply we|apply wb|apply wc|apply wf|apply wg|apply wh|(apply wi;apply rfl)|apply wj|apply wk|apply wl|apply wm|apply wn)
    refine s_call rfl rfl fk51 ?_
    refine same_c (nd_small hT k) ?_
    have hst : T.sameTo U (k + 1) = (T.nd k).same (U.nd k) := by simp only [Tab.sameTo, hs, Bool.true_and]
    repeat (first|(apply w1;apply rfl;apply rfl)|(apply w2;apply rfl)|(apply w3;apply rfl;apply rfl)|apply w4|apply w5|apply w6|apply w7|(apply w8;apply rfl)|(apply w9;apply rfl)|apply wa|apply wd|apply we|apply wb|apply wc|apply wf|apply wg|apply wh|(apply wi;apply rfl)|apply wj|apply wk|apply wl|apply wm|apply wn)
    refine aw_cond rfl (fun e => ?_) (fun e => ?_)
    · have e' : (T.nd k).same (U.nd k) = false := by simpa using e
      rw [sameTo_le (by rw [hst]; exact e') 24 c'] at hK
      repeat (first|(apply w1;apply rfl;apply rfl)|(apply w2;apply rfl)|(apply w3;apply rfl;apply rfl)|apply w4|apply w5|apply w6|apply w7|(apply w8;apply rfl)|(apply w9;apply rfl)|apply wa|apply wd|apply we|apply wb|apply wc|apply wf|apply wg|apply wh|(apply wi;apply rfl)|apply wj|apply wk|apply wl|apply wm|apply wn)
      exact rt1 rfl rfl (.refl _) (sub_new h8' (sub_new h6 (AHeap.sub_refl _))) hK
    · have e' : (T.nd k).same (U.nd k) = true := by simpa using e
      repeat (first|(apply w1;apply rfl;apply rfl)|(apply w2;apply rfl)|(apply w3;apply rfl;apply rfl)|apply w4|apply w5|apply w6|apply w7|(apply w8;apply rfl)|(apply w9;apply rfl)|apply wa|apply wd|apply we|apply wb|apply wc|apply wf|apply wg|apply wh|(apply wi;apply rfl)|apply wj|apply wk|apply wl|apply wm|apply wn)
      refine s_add rfl rfl rfl (by omega) ?_
      repeat (first|(apply w1;apply rfl;apply rfl)|(apply w2;apply rfl)|(apply w3;apply rfl;apply rfl)|apply w4|apply w5|apply w6|apply w7|(apply w8;apply rfl)|(apply w9;apply rfl)|apply wa|apply wd|apply we|apply wb|apply wc|apply wf|apply wg|apply wh|(apply wi;apply rfl)|apply wj|apply wk|apply wl|apply wm|apply wn)
      exact ⟨k + 1, ⟨c', by rw [hst]; exact e'⟩, by omega, Fr.sub_cons rfl (Fr.sub_cons rfl (Fr.sub_cons rfl (Fr.sub_nil _))), sub_new h8' (sub_new h6 (AHeap.sub_refl _))⟩
  · have : k = 24 := by have := of_decide_eq_false c; omega
    rw [← this, hs] at hK
    repeat (first|(apply w1;apply rfl;apply rfl)|(apply w2;apply rfl)|(apply w3;apply rfl;apply rfl)|apply w4|apply w5|apply w6|apply w7|(apply w8;apply rfl)|(apply w9;apply rfl)|apply wa|apply wd|apply we|apply wb|apply wc|apply wf|apply wg|apply wh|(apply wi;apply rfl)|apply wj|apply wk|apply wl|apply wm|apply wn)
    exact rt1 rfl rfl (.refl _) (AHeap.sub_refl _) hK

theorem flat_nodes (l : List Node) : flatA (l.map encNode).flatten = true := by
  simp only [flatA, List.all_eq_true]
  intro x hx
  obtain ⟨y, hy, hxy⟩ := List.mem_flatten.1 hx
  obtain ⟨n, _, rfl⟩ := List.mem_map.1 hy
  have := flat_node n
  simp only [flatA, List.all_eq_true] at this
  exact this x hxy
theorem flat_tab (T : Tab) : flatA (encTab T) = true := by
  have := flat_nodes T.nodes
  simp only [flatA, encTab, List.all_cons, Bool.and_eq_true] at this ⊢
  exact ⟨rfl, this⟩
theorem put_self (T : Tab) (k : Nat) (h : k < T.nodes.length) : T.put k T.nodes[k] = T := by
  cases T
  simp [Tab.put]
theorem clone_c {t : Nat} {T : Tab} (hw : T.wf) {H : AHeap} (hT : Rd H t (encTab T)) {K : AVal → AHeap → Prop} (hK : ∀ u, H u = none → K (.ptr u 0) (H.put u (.cells (encTab T)))) : ACalls Try.prog 31 [.ptr t 0] H K := by
  refine acalls_body Try.func31 rfl rfl rfl ?_
  have hlen := encTab_len T hw.1
  repeat (first|(apply w1;apply rfl;apply rfl)|apply w4|apply w5|apply w6|apply w7|(apply w9;apply rfl)|apply wa)
  refine s_loadw tk rfl rfl hT rfl hlen ?_
  skip
  refine s_alloc tk rfl rfl rfl (fun u hu => ?_)
  skip
  refine s_storew tk rfl rfl (put_same _ _ _) rfl hlen rfl (flat_tab T) ?_
  rw [put_put]
  repeat (first|(apply w1;apply rfl;apply rfl)|apply w4|apply w5|apply w6|apply w7|apply wb)
  refine aw_loop (fun k : Nat => k ≤ 24) (fun k => [(3, .ptr u 0), (10, .i k)]) (fun _ => H.put u (.cells (encTab T))) (fun k => 24 - k) 0 (by omega) (Fr.sub_cons rfl (Fr.sub_cons rfl (Fr.sub_nil _))) (AHeap.sub_refl _) ?_
  intro k hk
  repeat (first|(apply w1;apply rfl;apply rfl)|apply w4|apply w5|apply w6|apply w7)
  refine aw_cond rfl (fun c => ?_) (fun c => ?_)
  · have c' : k < 24 := by have := of_decide_eq_true c; omega
    have hkl : k < T.nodes.length := by have := hw.1; omega
    repeat (first|(apply w1;apply rfl;apply rfl)|apply w4|apply w5|apply w6|apply w7|apply wa|apply wb)
    refine s_indexa tk rfl rfl rfl rfl rfl (by omega) (by omega) ?_
    skip
    refine s_loada (ds := encNode T.nodes[k]) tk rfl rfl (.inl (put_same _ _ _)) rfl (by rw [hlen]; omega) (by
      have := encTab_agg T k
      rw [List.getElem?_eq_getElem hkl] at this
      exact this) ?_
    skip
    refine s_call rfl rfl fk50 ?_
    refine own_c (hw.2.2 _ (List.getElem_mem hkl)) ?_
    repeat ((apply w1;apply rfl;apply rfl))
    refine s_indexa tk rfl rfl rfl rfl rfl (by omega) (by omega) ?_
    skip
    refine s_storea tk rfl rfl (put_same _ _ _) rfl rfl (by rw [hlen]; omega) rfl (encTab_put T k _ hkl) ?_
    rw [put_put, put_self T k hkl]
    repeat (first|apply w4|apply w5|apply w7|apply wg)
    refine s_add rfl rfl rfl (by omega) ?_
    repeat (first|(apply w1;apply rfl;apply rfl)|apply w4|apply w5)
    exact ⟨k + 1, c', by omega, Fr.sub_cons rfl (Fr.sub_cons rfl (Fr.sub_nil _)), AHeap.sub_refl _⟩
  · repeat (first|(apply w1;apply rfl;apply rfl)|apply w4|apply w5|apply w6|apply w7|apply wd|apply wc|apply wf|apply wh)
    exact rt1 rfl rfl (.refl _) (AHeap.sub_refl _) (hK u hu)
end Abs
end Go.Proofs.Ytbldnaflffmddaa

set_option linter.unusedVariables false
namespace Go.Proofs.Ytbldnaflffmddaa
namespace Abs
set_option maxRecDepth 10000
attribute [local irreducible] AOps AW AP ACalls thenQ inBlk noGoto

end Abs
end Go.Proofs.Ytbldnaflffmddaa

set_option linter.unusedVariables false
namespace Go.Proofs.Ytbldnaflffmddaa
namespace Abs
set_option maxRecDepth 10000
attribute [local irreducible] AOps AW AP ACalls thenQ inBlk noGoto

/-! ### no table -/
end Abs
end Go.Proofs.Ytbldnaflffmddaa
