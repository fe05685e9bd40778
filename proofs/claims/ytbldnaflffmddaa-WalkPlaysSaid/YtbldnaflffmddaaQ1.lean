import Derived.Test.YtbldnaflffmddaaN1
import Derived.Test.YtbldnaflffmddaaA10
set_option linter.unusedVariables false
namespace Go.Proofs.Ytbldnaflffmddaa
namespace Abs
set_option maxRecDepth 10000

/-! ### the document's chapter 07: names -/
theorem str_get (s : ByteArray) (k : Nat) (h : k < s.size) : s.data.toList[k]? = some (s.get! k) := by
  rw [get_bang s k h]
  exact List.getElem?_eq_getElem _
/-! ### Less -/
theorem bless_ne (x y : UInt8) (a b : List UInt8) (h : x ≠ y) : Op.bytesLess (x :: a) (y :: b) = decide (x < y) := by
  have : (x == y) = false := by simpa using h
  simp [Op.bytesLess, this]
theorem bless_eq (x : UInt8) (a b : List UInt8) : Op.bytesLess (x :: a) (x :: b) = Op.bytesLess a b := by
  simp [Op.bytesLess]
theorem less_c {a b : ByteArray} {H : AHeap} {K : AVal → AHeap → Prop} (ha : a.size ≤ 9223372036854775807) (hK : K (.b (Op.bytesLess a.toList b.toList)) H) : ACalls Try.prog 58 [.s a, .s b] H K := by
  refine acalls_body Try.func58 rfl rfl rfl ?_
  rw [ByteArray.toList_eq, ByteArray.toList_eq] at hK
  have la : a.data.toList.length = a.size := by rw [Array.length_toList]; rfl
  have lb : b.data.toList.length = b.size := by rw [Array.length_toList]; rfl
  repeat (first | refine w1 rfl rfl ?_ | refine w2 rfl ?_ | refine w3 rfl rfl ?_ | refine w4 ?_ | refine w5 ?_ | refine w6 ?_ | refine w7 ?_ | refine w8 rfl ?_ | refine w9 rfl ?_ | refine wa ?_ | refine wd ?_ | refine we ?_ | refine wb ?_ | refine wc ?_ | refine wf ?_ | refine wg ?_ | refine wh ?_ | refine wi rfl ?_ | refine wj ?_ | refine wk ?_ | refine wl ?_ | refine wm ?_ | refine wn ?_)
  refine aw_loop (fun k : Nat => k ≤ a.size ∧ k ≤ b.size ∧ Op.bytesLess a.data.toList b.data.toList = Op.bytesLess (a.data.toList.drop k) (b.data.toList.drop k)) (fun k => [(0, .s a), (1, .s b), (5, .i k)]) (fun _ => H) (fun k => a.size - k) 0 ⟨Nat.zero_le _, Nat.zero_le _, rfl⟩
    (Fr.sub_cons rfl (Fr.sub_cons rfl (Fr.sub_cons rfl (Fr.sub_nil _)))) (AHeap.sub_refl _) ?_
  intro k ⟨hk, hk2, hb⟩
  have hend : ¬ (k < a.size ∧ k < b.size) → K (.b (decide ((a.size : Int) < b.size))) H := fun hn => by
    have : Op.bytesLess a.data.toList b.data.toList = decide ((a.size : Int) < b.size) := by
      rw [hb]
      rcases Nat.lt_or_ge k a.size with h | h
      · have h2 : b.data.toList.drop k = [] := List.drop_of_length_le (by omega)
        rw [h2, decide_eq_false (by omega)]
        cases a.data.toList.drop k <;> rfl
      · have h2 : a.data.toList.drop k = [] := List.drop_of_length_le (by omega)
        rw [h2]
        rcases Nat.lt_or_ge k b.size with h3 | h3
        · rw [List.drop_eq_getElem_cons (show k < b.data.toList.length by omega), decide_eq_true (by omega)]
          rfl
        · rw [List.drop_of_length_le (show b.data.toList.length ≤ k by omega), decide_eq_false (by omega)]
          rfl
    rw [← this]; exact hK
  repeat (first | refine w1 rfl rfl ?_ | refine w2 rfl ?_ | refine w3 rfl rfl ?_ | refine w4 ?_ | refine w5 ?_ | refine w6 ?_ | refine w7 ?_ | refine w8 rfl ?_ | refine w9 rfl ?_ | refine wa ?_ | refine wd ?_ | refine we ?_ | refine wb ?_ | refine wc ?_ | refine wf ?_ | refine wg ?_ | refine wh ?_ | refine wi rfl ?_ | refine wj ?_ | refine wk ?_ | refine wl ?_ | refine wm ?_ | refine wn ?_)
  refine s_gsplit rfl rfl (fun g1 => ?_) (fun g1 => ?_)
  case refine_2 =>
    repeat (first | refine w1 rfl rfl ?_ | refine w2 rfl ?_ | refine w3 rfl rfl ?_ | refine w4 ?_ | refine w5 ?_ | refine w6 ?_ | refine w7 ?_ | refine w8 rfl ?_ | refine w9 rfl ?_ | refine wa ?_ | refine wd ?_ | refine we ?_ | refine wb ?_ | refine wc ?_ | refine wf ?_ | refine wg ?_ | refine wh ?_ | refine wi rfl ?_ | refine wj ?_ | refine wk ?_ | refine wl ?_ | refine wm ?_ | refine wn ?_)
    exact rt1 rfl rfl (.refl _) (AHeap.sub_refl _) (hend (fun h => by have := of_decide_eq_false g1; omega))
  have g1' : k < a.size := by have := of_decide_eq_true g1; omega
  repeat (first | refine w1 rfl rfl ?_ | refine w2 rfl ?_ | refine w3 rfl rfl ?_ | refine w4 ?_ | refine w5 ?_ | refine w6 ?_ | refine w7 ?_ | refine w8 rfl ?_ | refine w9 rfl ?_ | refine wa ?_ | refine wd ?_ | refine we ?_ | refine wb ?_ | refine wc ?_ | refine wf ?_ | refine wg ?_ | refine wh ?_ | refine wi rfl ?_ | refine wj ?_ | refine wk ?_ | refine wl ?_ | refine wm ?_ | refine wn ?_)
  refine aw_cond rfl (fun g2 => ?_) (fun g2 => ?_)
  case refine_2 =>
    repeat (first | refine w1 rfl rfl ?_ | refine w2 rfl ?_ | refine w3 rfl rfl ?_ | refine w4 ?_ | refine w5 ?_ | refine w6 ?_ | refine w7 ?_ | refine w8 rfl ?_ | refine w9 rfl ?_ | refine wa ?_ | refine wd ?_ | refine we ?_ | refine wb ?_ | refine wc ?_ | refine wf ?_ | refine wg ?_ | refine wh ?_ | refine wi rfl ?_ | refine wj ?_ | refine wk ?_ | refine wl ?_ | refine wm ?_ | refine wn ?_)
    exact rt1 rfl rfl (.refl _) (AHeap.sub_refl _) (hend (fun h => by have := of_decide_eq_false g2; omega))
  have g2' : k < b.size := by have := of_decide_eq_true g2; omega
  have da : a.data.toList.drop k = a.get! k :: a.data.toList.drop (k + 1) := by
    rw [List.drop_eq_getElem_cons (show k < a.data.toList.length by omega), get_bang a k g1']
  have db : b.data.toList.drop k = b.get! k :: b.data.toList.drop (k + 1) := by
    rw [List.drop_eq_getElem_cons (show k < b.data.toList.length by omega), get_bang b k g2']
  repeat (first | refine w1 rfl rfl ?_ | refine w2 rfl ?_ | refine w3 rfl rfl ?_ | refine w4 ?_ | refine w5 ?_ | refine w6 ?_ | refine w7 ?_ | refine w8 rfl ?_ | refine w9 rfl ?_ | refine wa ?_ | refine wd ?_ | refine we ?_ | refine wb ?_ | refine wc ?_ | refine wf ?_ | refine wg ?_ | refine wh ?_ | refine wi rfl ?_ | refine wj ?_ | refine wk ?_ | refine wl ?_ | refine wm ?_ | refine wn ?_)
  refine aw_plan mixed (.take 0 (.take 1 (.take 2 (.take 3 (.take 4 (.take 5 (.take 6 .done))))))) (by kernel_rfl) ?_
  repeat (first | refine d1 rfl rfl rfl rfl ?_ | refine d2 rfl rfl rfl ?_ | refine d3 ?_ | refine d5 rfl rfl rfl ?_)
  refine d_indexs rfl rfl rfl rfl rfl rfl (by omega) (str_get a k g1') ?_
  repeat (first | refine d1 rfl rfl rfl rfl ?_ | refine d2 rfl rfl rfl ?_ | refine d3 ?_ | refine d5 rfl rfl rfl ?_)
  refine d_indexs rfl rfl rfl rfl rfl rfl (by omega) (str_get b k g2') ?_
  repeat (first | refine d1 rfl rfl rfl rfl ?_ | refine d2 rfl rfl rfl ?_ | refine d3 ?_ | refine d5 rfl rfl rfl ?_)
  refine aw_cond rfl (fun e => ?_) (fun e => ?_)
  · have hne : a.get! k ≠ b.get! k := fun h => by rw [h] at e; simp at e
    repeat (first | refine w1 rfl rfl ?_ | refine w2 rfl ?_ | refine w3 rfl rfl ?_ | refine w4 ?_ | refine w5 ?_ | refine w6 ?_ | refine w7 ?_ | refine w8 rfl ?_ | refine w9 rfl ?_ | refine wa ?_ | refine wd ?_ | refine we ?_ | refine wb ?_ | refine wc ?_ | refine wf ?_ | refine wg ?_ | refine wh ?_ | refine wi rfl ?_ | refine wj ?_ | refine wk ?_ | refine wl ?_ | refine wm ?_ | refine wn ?_)
    refine aw_plan mixed (.take 0 (.take 1 (.take 2 (.take 3 (.take 4 (.take 5 (.take 6 (.take 7 .done)))))))) (by kernel_rfl) ?_
    repeat (first | refine d1 rfl rfl rfl rfl ?_ | refine d2 rfl rfl rfl ?_ | refine d3 ?_ | refine d5 rfl rfl rfl ?_)
    refine d_indexs rfl rfl rfl rfl rfl rfl (by omega) (str_get a k g1') ?_
    repeat (first | refine d1 rfl rfl rfl rfl ?_ | refine d2 rfl rfl rfl ?_ | refine d3 ?_ | refine d5 rfl rfl rfl ?_)
    refine d_indexs rfl rfl rfl rfl rfl rfl (by omega) (str_get b k g2') ?_
    repeat (first | refine d1 rfl rfl rfl rfl ?_ | refine d2 rfl rfl rfl ?_ | refine d3 ?_ | refine d5 rfl rfl rfl ?_)
    repeat (first | refine w1 rfl rfl ?_ | refine w2 rfl ?_ | refine w3 rfl rfl ?_ | refine w4 ?_ | refine w5 ?_ | refine w6 ?_ | refine w7 ?_ | refine w8 rfl ?_ | refine w9 rfl ?_ | refine wa ?_ | refine wd ?_ | refine we ?_ | refine wb ?_ | refine wc ?_ | refine wf ?_ | refine wg ?_ | refine wh ?_ | refine wi rfl ?_ | refine wj ?_ | refine wk ?_ | refine wl ?_ | refine wm ?_ | refine wn ?_)
    refine rt1 rfl rfl (.refl _) (AHeap.sub_refl _) ?_
    have : Op.bytesLess a.data.toList b.data.toList = decide (((a.get! k).toNat : Int) < (b.get! k).toNat) := by
      rw [hb, da, db, bless_ne _ _ _ _ hne]
      refine decide_eq_decide.2 ?_
      rw [UInt8.lt_iff_toNat_lt]
      omega
    rw [← this]; exact hK
  · have he : a.get! k = b.get! k := UInt8.toNat_inj.1 (Int.ofNat.inj (show ((a.get! k).toNat : Int) = (b.get! k).toNat by simpa using e))
    repeat (first | refine w1 rfl rfl ?_ | refine w2 rfl ?_ | refine w3 rfl rfl ?_ | refine w4 ?_ | refine w5 ?_ | refine w6 ?_ | refine w7 ?_ | refine w8 rfl ?_ | refine w9 rfl ?_ | refine wa ?_ | refine wd ?_ | refine we ?_ | refine wb ?_ | refine wc ?_ | refine wf ?_ | refine wg ?_ | refine wh ?_ | refine wi rfl ?_ | refine wj ?_ | refine wk ?_ | refine wl ?_ | refine wm ?_ | refine wn ?_)
    refine s_add rfl rfl rfl (by omega) ?_
    repeat (first | refine w1 rfl rfl ?_ | refine w2 rfl ?_ | refine w3 rfl rfl ?_ | refine w4 ?_ | refine w5 ?_ | refine w6 ?_ | refine w7 ?_ | refine w8 rfl ?_ | refine w9 rfl ?_ | refine wa ?_ | refine wd ?_ | refine we ?_ | refine wb ?_ | refine wc ?_ | refine wf ?_ | refine wg ?_ | refine wh ?_ | refine wi rfl ?_ | refine wj ?_ | refine wk ?_ | refine wl ?_ | refine wm ?_ | refine wn ?_)
    refine ⟨k + 1, ⟨g1', g2', ?_⟩, by omega, Fr.sub_cons rfl (Fr.sub_cons rfl (Fr.sub_cons rfl (Fr.sub_nil _))), AHeap.sub_refl _⟩
    rw [hb, da, db, he, bless_eq]
end Abs
end Go.Proofs.Ytbldnaflffmddaa

set_option linter.unusedVariables false
namespace Go.Proofs.Ytbldnaflffmddaa
namespace Abs
set_option maxRecDepth 10000

/-! ### the document's chapter 08: nodes -/
def encNames (l : List Ent) : List (List AVal) := l.map fun e => [.s e.name]
def encKids (l : List Ent) : List (List AVal) := l.map fun e => [.i e.node]
end Abs
end Go.Proofs.Ytbldnaflffmddaa

set_option linter.unusedVariables false
namespace Go.Proofs.Ytbldnaflffmddaa
namespace Abs
set_option maxRecDepth 10000

end Abs
end Go.Proofs.Ytbldnaflffmddaa
