import Derived.Test.YtpifnlodilcgkaaN1
import Derived.Test.YtpifnlodilcgkaaA10
set_option linter.unusedVariables false
namespace Go.Proofs.Ytpifnlodilcgkaa
namespace Abs
set_option maxRecDepth 10000

/-! ### the document's chapter 07: names -/
theorem str_get (s : ByteArray) (k : Nat) (h : k < s.size) : s.data.toList[k]? = some (s.get! k) := by
  rw [get_bang s k h]
  exact List.getElem?_eq_getElem _
theorem rhas_c {s : ByteArray} {c : UInt8} {n : Int} (hn : n = c.toNat) {H : AHeap} {K : AVal → AHeap → Prop} (hs : s.size ≤ 9223372036854775807) (hK : K (.b (hasB s c)) H) : ACalls Try.prog 120 [.s s, .sc (.int .u8 n)] H K := by
  subst hn
  refine acalls_body Try.func120 rfl rfl rfl ?_
  repeat (first | refine w1 rfl rfl ?_ | refine w2 rfl ?_ | refine w3 rfl rfl ?_ | refine w4 ?_ | refine w5 ?_ | refine w6 ?_ | refine w7 ?_ | refine w8 rfl ?_ | refine w9 rfl ?_ | refine wa ?_ | refine wd ?_ | refine we ?_ | refine wb ?_ | refine wc ?_ | refine wf ?_ | refine wg ?_ | refine wh ?_ | refine wi rfl ?_ | refine wj ?_ | refine wk ?_ | refine wl ?_ | refine wm ?_ | refine wn ?_)
  refine aw_loop (fun k : Nat => k ≤ s.size ∧ ∀ j, j < k → s.get! j ≠ c) (fun k => [(0, .s s), (1, .sc (.int .u8 c.toNat)), (5, .i k)]) (fun _ => H) (fun k => s.size - k) 0 ⟨Nat.zero_le _, fun j h => absurd h (Nat.not_lt_zero _)⟩ (Fr.sub_cons rfl (Fr.sub_cons rfl (Fr.sub_cons rfl (Fr.sub_nil _)))) (AHeap.sub_refl _) ?_
  intro k ⟨hk, hall⟩
  repeat (first | refine w1 rfl rfl ?_ | refine w2 rfl ?_ | refine w3 rfl rfl ?_ | refine w4 ?_ | refine w5 ?_ | refine w6 ?_ | refine w7 ?_ | refine w8 rfl ?_ | refine w9 rfl ?_ | refine wa ?_ | refine wd ?_ | refine we ?_ | refine wb ?_ | refine wc ?_ | refine wf ?_ | refine wg ?_ | refine wh ?_ | refine wi rfl ?_ | refine wj ?_ | refine wk ?_ | refine wl ?_ | refine wm ?_ | refine wn ?_)
  refine aw_cond rfl (fun g => ?_) (fun g => ?_)
  · have g' : k < s.size := by have := of_decide_eq_true g; omega
    repeat (first | refine w1 rfl rfl ?_ | refine w2 rfl ?_ | refine w3 rfl rfl ?_ | refine w4 ?_ | refine w5 ?_ | refine w6 ?_ | refine w7 ?_ | refine w8 rfl ?_ | refine w9 rfl ?_ | refine wa ?_ | refine wd ?_ | refine we ?_ | refine wb ?_ | refine wc ?_ | refine wf ?_ | refine wg ?_ | refine wh ?_ | refine wi rfl ?_ | refine wj ?_ | refine wk ?_ | refine wl ?_ | refine wm ?_ | refine wn ?_)
    refine s_indexs tk rfl rfl rfl rfl (by omega) (str_get s k g') ?_
    repeat (first | refine w1 rfl rfl ?_ | refine w2 rfl ?_ | refine w3 rfl rfl ?_ | refine w4 ?_ | refine w5 ?_ | refine w6 ?_ | refine w7 ?_ | refine w8 rfl ?_ | refine w9 rfl ?_ | refine wa ?_ | refine wd ?_ | refine we ?_ | refine wb ?_ | refine wc ?_ | refine wf ?_ | refine wg ?_ | refine wh ?_ | refine wi rfl ?_ | refine wj ?_ | refine wk ?_ | refine wl ?_ | refine wm ?_ | refine wn ?_)
    refine aw_cond rfl (fun e => ?_) (fun e => ?_)
    · have he : s.get! k = c := UInt8.toNat_inj.1 (Int.ofNat.inj (show ((s.get! k).toNat : Int) = c.toNat by simpa using e))
      rw [(hasB_iff s c).2 ⟨k, g', he⟩] at hK
      repeat (first | refine w1 rfl rfl ?_ | refine w2 rfl ?_ | refine w3 rfl rfl ?_ | refine w4 ?_ | refine w5 ?_ | refine w6 ?_ | refine w7 ?_ | refine w8 rfl ?_ | refine w9 rfl ?_ | refine wa ?_ | refine wd ?_ | refine we ?_ | refine wb ?_ | refine wc ?_ | refine wf ?_ | refine wg ?_ | refine wh ?_ | refine wi rfl ?_ | refine wj ?_ | refine wk ?_ | refine wl ?_ | refine wm ?_ | refine wn ?_)
      exact rt1 rfl rfl (.refl _) (AHeap.sub_refl _) hK
    · have he : s.get! k ≠ c := fun h => by rw [h] at e; simp at e
      repeat (first | refine w1 rfl rfl ?_ | refine w2 rfl ?_ | refine w3 rfl rfl ?_ | refine w4 ?_ | refine w5 ?_ | refine w6 ?_ | refine w7 ?_ | refine w8 rfl ?_ | refine w9 rfl ?_ | refine wa ?_ | refine wd ?_ | refine we ?_ | refine wb ?_ | refine wc ?_ | refine wf ?_ | refine wg ?_ | refine wh ?_ | refine wi rfl ?_ | refine wj ?_ | refine wk ?_ | refine wl ?_ | refine wm ?_ | refine wn ?_)
      refine s_add rfl rfl rfl (by omega) ?_
      repeat (first | refine w1 rfl rfl ?_ | refine w2 rfl ?_ | refine w3 rfl rfl ?_ | refine w4 ?_ | refine w5 ?_ | refine w6 ?_ | refine w7 ?_ | refine w8 rfl ?_ | refine w9 rfl ?_ | refine wa ?_ | refine wd ?_ | refine we ?_ | refine wb ?_ | refine wc ?_ | refine wf ?_ | refine wg ?_ | refine wh ?_ | refine wi rfl ?_ | refine wj ?_ | refine wk ?_ | refine wl ?_ | refine wm ?_ | refine wn ?_)
      refine ⟨k + 1, ⟨g', fun j hj => ?_⟩, by omega, Fr.sub_cons rfl (Fr.sub_cons rfl (Fr.sub_cons rfl (Fr.sub_nil _))), AHeap.sub_refl _⟩
      rcases Nat.lt_or_ge j k with h | h
      · exact hall j h
      · have : j = k := by omega
        subst this; exact he
  · have hke : k = s.size := by have := of_decide_eq_false g; omega
    subst hke
    have : hasB s c = false := Bool.eq_false_iff.2 fun h => by
      obtain ⟨j, hj, e⟩ := (hasB_iff s c).1 h
      exact hall j hj e
    rw [this] at hK
    repeat (first | refine w1 rfl rfl ?_ | refine w2 rfl ?_ | refine w3 rfl rfl ?_ | refine w4 ?_ | refine w5 ?_ | refine w6 ?_ | refine w7 ?_ | refine w8 rfl ?_ | refine w9 rfl ?_ | refine wa ?_ | refine wd ?_ | refine we ?_ | refine wb ?_ | refine wc ?_ | refine wf ?_ | refine wg ?_ | refine wh ?_ | refine wi rfl ?_ | refine wj ?_ | refine wk ?_ | refine wl ?_ | refine wm ?_ | refine wn ?_)
    exact rt1 rfl rfl (.refl _) (AHeap.sub_refl _) hK
theorem rfits_c {s : ByteArray} {H : AHeap} {K : AVal → AHeap → Prop} (hK : K (.b (fitsOk s)) H) : ACalls Try.prog 119 [.s s] H K := by
  refine acalls_body Try.func119 rfl rfl rfl ?_
  repeat (first | refine w1 rfl rfl ?_ | refine w2 rfl ?_ | refine w3 rfl rfl ?_ | refine w4 ?_ | refine w5 ?_ | refine w6 ?_ | refine w7 ?_ | refine w8 rfl ?_ | refine w9 rfl ?_ | refine wa ?_ | refine wd ?_ | refine we ?_ | refine wb ?_ | refine wc ?_ | refine wf ?_ | refine wg ?_ | refine wh ?_ | refine wi rfl ?_ | refine wj ?_ | refine wk ?_ | refine wl ?_ | refine wm ?_ | refine wn ?_)
  refine s_gsplit rfl rfl (fun g1 => ?_) (fun g1 => ?_) <;> repeat (first | refine w1 rfl rfl ?_ | refine w2 rfl ?_ | refine w3 rfl rfl ?_ | refine w4 ?_ | refine w5 ?_ | refine w6 ?_ | refine w7 ?_ | refine w8 rfl ?_ | refine w9 rfl ?_ | refine wa ?_ | refine wd ?_ | refine we ?_ | refine wb ?_ | refine wc ?_ | refine wf ?_ | refine wg ?_ | refine wh ?_ | refine wi rfl ?_ | refine wj ?_ | refine wk ?_ | refine wl ?_ | refine wm ?_ | refine wn ?_)
  · refine s_gsplit rfl rfl (fun g2 => ?_) (fun g2 => ?_) <;> repeat (first | refine w1 rfl rfl ?_ | refine w2 rfl ?_ | refine w3 rfl rfl ?_ | refine w4 ?_ | refine w5 ?_ | refine w6 ?_ | refine w7 ?_ | refine w8 rfl ?_ | refine w9 rfl ?_ | refine wa ?_ | refine wd ?_ | refine we ?_ | refine wb ?_ | refine wc ?_ | refine wf ?_ | refine wg ?_ | refine wh ?_ | refine wi rfl ?_ | refine wj ?_ | refine wk ?_ | refine wl ?_ | refine wm ?_ | refine wn ?_)
    · refine s_call rfl rfl fk120 ?_
      refine rhas_c (c := 0) rfl (by simp at g2; omega) ?_
      repeat (first | refine w1 rfl rfl ?_ | refine w2 rfl ?_ | refine w3 rfl rfl ?_ | refine w4 ?_ | refine w5 ?_ | refine w6 ?_ | refine w7 ?_ | refine w8 rfl ?_ | refine w9 rfl ?_ | refine wa ?_ | refine wd ?_ | refine we ?_ | refine wb ?_ | refine wc ?_ | refine wf ?_ | refine wg ?_ | refine wh ?_ | refine wi rfl ?_ | refine wj ?_ | refine wk ?_ | refine wl ?_ | refine wm ?_ | refine wn ?_)
      exact rt1 rfl rfl (.refl _) (AHeap.sub_refl _) (by simpa [fitsOk, g1, g2] using hK)
    · exact rt1 rfl rfl (.refl _) (AHeap.sub_refl _) (by simpa [fitsOk, g1, g2] using hK)
  · exact rt1 rfl rfl (.refl _) (AHeap.sub_refl _) (by simpa [fitsOk, g1] using hK)
theorem rname_c {s : ByteArray} {H : AHeap} {K : AVal → AHeap → Prop} (hK : K (.b (nameOk s)) H) : ACalls Try.prog 137 [.s s] H K := by
  refine acalls_body Try.func137 rfl rfl rfl ?_
  repeat (first | refine w1 rfl rfl ?_ | refine w2 rfl ?_ | refine w3 rfl rfl ?_ | refine w4 ?_ | refine w5 ?_ | refine w6 ?_ | refine w7 ?_ | refine w8 rfl ?_ | refine w9 rfl ?_ | refine wa ?_ | refine wd ?_ | refine we ?_ | refine wb ?_ | refine wc ?_ | refine wf ?_ | refine wg ?_ | refine wh ?_ | refine wi rfl ?_ | refine wj ?_ | refine wk ?_ | refine wl ?_ | refine wm ?_ | refine wn ?_)
  refine s_gsplit rfl rfl (fun g1 => ?_) (fun g1 => ?_) <;> repeat (first | refine w1 rfl rfl ?_ | refine w2 rfl ?_ | refine w3 rfl rfl ?_ | refine w4 ?_ | refine w5 ?_ | refine w6 ?_ | refine w7 ?_ | refine w8 rfl ?_ | refine w9 rfl ?_ | refine wa ?_ | refine wd ?_ | refine we ?_ | refine wb ?_ | refine wc ?_ | refine wf ?_ | refine wg ?_ | refine wh ?_ | refine wi rfl ?_ | refine wj ?_ | refine wk ?_ | refine wl ?_ | refine wm ?_ | refine wn ?_)
  · refine s_gsplit rfl rfl (fun g2 => ?_) (fun g2 => ?_) <;> repeat (first | refine w1 rfl rfl ?_ | refine w2 rfl ?_ | refine w3 rfl rfl ?_ | refine w4 ?_ | refine w5 ?_ | refine w6 ?_ | refine w7 ?_ | refine w8 rfl ?_ | refine w9 rfl ?_ | refine wa ?_ | refine wd ?_ | refine we ?_ | refine wb ?_ | refine wc ?_ | refine wf ?_ | refine wg ?_ | refine wh ?_ | refine wi rfl ?_ | refine wj ?_ | refine wk ?_ | refine wl ?_ | refine wm ?_ | refine wn ?_)
    · refine s_gsplit rfl rfl (fun g3 => ?_) (fun g3 => ?_) <;> repeat (first | refine w1 rfl rfl ?_ | refine w2 rfl ?_ | refine w3 rfl rfl ?_ | refine w4 ?_ | refine w5 ?_ | refine w6 ?_ | refine w7 ?_ | refine w8 rfl ?_ | refine w9 rfl ?_ | refine wa ?_ | refine wd ?_ | refine we ?_ | refine wb ?_ | refine wc ?_ | refine wf ?_ | refine wg ?_ | refine wh ?_ | refine wi rfl ?_ | refine wj ?_ | refine wk ?_ | refine wl ?_ | refine wm ?_ | refine wn ?_)
      · refine s_gsplit rfl rfl (fun g4 => ?_) (fun g4 => ?_) <;> repeat (first | refine w1 rfl rfl ?_ | refine w2 rfl ?_ | refine w3 rfl rfl ?_ | refine w4 ?_ | refine w5 ?_ | refine w6 ?_ | refine w7 ?_ | refine w8 rfl ?_ | refine w9 rfl ?_ | refine wa ?_ | refine wd ?_ | refine we ?_ | refine wb ?_ | refine wc ?_ | refine wf ?_ | refine wg ?_ | refine wh ?_ | refine wi rfl ?_ | refine wj ?_ | refine wk ?_ | refine wl ?_ | refine wm ?_ | refine wn ?_)
        · refine s_call rfl rfl fk120 ?_
          have hs : s.size ≤ 9223372036854775807 := by simp at g2; omega
          refine rhas_c (c := 47) rfl hs ?_
          repeat (first | refine w1 rfl rfl ?_ | refine w2 rfl ?_ | refine w3 rfl rfl ?_ | refine w4 ?_ | refine w5 ?_ | refine w6 ?_ | refine w7 ?_ | refine w8 rfl ?_ | refine w9 rfl ?_ | refine wa ?_ | refine wd ?_ | refine we ?_ | refine wb ?_ | refine wc ?_ | refine wf ?_ | refine wg ?_ | refine wh ?_ | refine wi rfl ?_ | refine wj ?_ | refine wk ?_ | refine wl ?_ | refine wm ?_ | refine wn ?_)
          refine s_gsplit rfl rfl (fun g5 => ?_) (fun g5 => ?_) <;> repeat (first | refine w1 rfl rfl ?_ | refine w2 rfl ?_ | refine w3 rfl rfl ?_ | refine w4 ?_ | refine w5 ?_ | refine w6 ?_ | refine w7 ?_ | refine w8 rfl ?_ | refine w9 rfl ?_ | refine wa ?_ | refine wd ?_ | refine we ?_ | refine wb ?_ | refine wc ?_ | refine wf ?_ | refine wg ?_ | refine wh ?_ | refine wi rfl ?_ | refine wj ?_ | refine wk ?_ | refine wl ?_ | refine wm ?_ | refine wn ?_)
          · refine s_call rfl rfl fk120 ?_
            refine rhas_c (c := 0) rfl hs ?_
            repeat (first | refine w1 rfl rfl ?_ | refine w2 rfl ?_ | refine w3 rfl rfl ?_ | refine w4 ?_ | refine w5 ?_ | refine w6 ?_ | refine w7 ?_ | refine w8 rfl ?_ | refine w9 rfl ?_ | refine wa ?_ | refine wd ?_ | refine we ?_ | refine wb ?_ | refine wc ?_ | refine wf ?_ | refine wg ?_ | refine wh ?_ | refine wi rfl ?_ | refine wj ?_ | refine wk ?_ | refine wl ?_ | refine wm ?_ | refine wn ?_)
            exact rt1 rfl rfl (.refl _) (AHeap.sub_refl _) (by simpa [nameOk, g1, g2, g3, g4, g5] using hK)
          · exact rt1 rfl rfl (.refl _) (AHeap.sub_refl _) (by simpa [nameOk, g1, g2, g3, g4, g5] using hK)
        · exact rt1 rfl rfl (.refl _) (AHeap.sub_refl _) (by simpa [nameOk, g1, g2, g3, g4] using hK)
      · exact rt1 rfl rfl (.refl _) (AHeap.sub_refl _) (by simpa [nameOk, g1, g2, g3] using hK)
    · exact rt1 rfl rfl (.refl _) (AHeap.sub_refl _) (by simpa [nameOk, g1, g2] using hK)
  · exact rt1 rfl rfl (.refl _) (AHeap.sub_refl _) (by simpa [nameOk, g1] using hK)

/-! ### Less -/
theorem bless_ne (x y : UInt8) (a b : List UInt8) (h : x ≠ y) : Op.bytesLess (x :: a) (y :: b) = decide (x < y) := by
  have : (x == y) = false := by simpa using h
  simp [Op.bytesLess, this]
theorem bless_eq (x : UInt8) (a b : List UInt8) : Op.bytesLess (x :: a) (x :: b) = Op.bytesLess a b := by
  simp [Op.bytesLess]
theorem less_c {a b : ByteArray} {H : AHeap} {K : AVal → AHeap → Prop} (ha : a.size ≤ 9223372036854775807) (hK : K (.b (Op.bytesLess a.toList b.toList)) H) : ACalls Try.prog 122 [.s a, .s b] H K := by
  refine acalls_body Try.func122 rfl rfl rfl ?_
  rw [ByteArray.toList_eq, ByteArray.toList_eq] at hK
  have la : a.data.toList.length = a.size := by rw [Array.length_toList]; rfl
  have lb : b.data.toList.length = b.size := by rw [Array.length_toList]; rfl
  repeat (first | refine w1 rfl rfl ?_ | refine w2 rfl ?_ | refine w3 rfl rfl ?_ | refine w4 ?_ | refine w5 ?_ | refine w6 ?_ | refine w7 ?_ | refine w8 rfl ?_ | refine w9 rfl ?_ | refine wa ?_ | refine wd ?_ | refine we ?_ | refine wb ?_ | refine wc ?_ | refine wf ?_ | refine wg ?_ | refine wh ?_ | refine wi rfl ?_ | refine wj ?_ | refine wk ?_ | refine wl ?_ | refine wm ?_ | refine wn ?_)
  refine aw_loop (fun k : Nat => k ≤ a.size ∧ k ≤ b.size ∧ Op.bytesLess a.data.toList b.data.toList = Op.bytesLess (a.data.toList.drop k) (b.data.toList.drop k)) (fun k => [(0, .s a), (1, .s b), (5, .i k)]) (fun _ => H) (fun k => a.size - k) 0 ⟨Nat.zero_le _, Nat.zero_le _, rfl⟩
    (Fr.sub_cons rfl (Fr.sub_cons rfl (Fr.sub_cons rfl (Fr.sub_nil _)))) (AHeap.sub_refl _) ?_
  intro k ⟨hk, hk2, hb⟩
  have hend : ¬ (k < a.size ∧ k < b.size) → K (.b (decide ((a.size : Int) < b.size))) H := fun hn => by
    have : Op.bytesLess a.data.toList b.data.toList = decide ((a.size : Int) < b.size) := by
      rw [hb]
      rcases Nat.lt_or_ge k a.size with h | h
      · have h2 : b.data.toList.drop k = [] := List.drop_of_length_le (by omega)
        rw [h2, decide_eq_false (by omega)]
        cases a.data.toList.drop k <;> rfl
      · have h2 : a.data.toList.drop k = [] := List.drop_of_length_le (by omega)
        rw [h2]
        rcases Nat.lt_or_ge k b.size with h3 | h3
        · rw [List.drop_eq_getElem_cons (show k < b.data.toList.length by omega), decide_eq_true (by omega)]
          rfl
        · rw [List.drop_of_length_le (show b.data.toList.length ≤ k by omega), decide_eq_false (by omega)]
          rfl
    rw [← this]; exact hK
  repeat (first | refine w1 rfl rfl ?_ | refine w2 rfl ?_ | refine w3 rfl rfl ?_ | refine w4 ?_ | refine w5 ?_ | refine w6 ?_ | refine w7 ?_ | refine w8 rfl ?_ | refine w9 rfl ?_ | refine wa ?_ | refine wd ?_ | refine we ?_ | refine wb ?_ | refine wc ?_ | refine wf ?_ | refine wg ?_ | refine wh ?_ | refine wi rfl ?_ | refine wj ?_ | refine wk ?_ | refine wl ?_ | refine wm ?_ | refine wn ?_)
  refine s_gsplit rfl rfl (fun g1 => ?_) (fun g1 => ?_)
  case refine_2 =>
    repeat (first | refine w1 rfl rfl ?_ | refine w2 rfl ?_ | refine w3 rfl rfl ?_ | refine w4 ?_ | refine w5 ?_ | refine w6 ?_ | refine w7 ?_ | refine w8 rfl ?_ | refine w9 rfl ?_ | refine wa ?_ | refine wd ?_ | refine we ?_ | refine wb ?_ | refine wc ?_ | refine wf ?_ | refine wg ?_ | refine wh ?_ | refine wi rfl ?_ | refine wj ?_ | refine wk ?_ | refine wl ?_ | refine wm ?_ | refine wn ?_)
    exact rt1 rfl rfl (.refl _) (AHeap.sub_refl _) (hend (fun h => by have := of_decide_eq_false g1; omega))
  have g1' : k < a.size := by have := of_decide_eq_true g1; omega
  repeat (first | refine w1 rfl rfl ?_ | refine w2 rfl ?_ | refine w3 rfl rfl ?_ | refine w4 ?_ | refine w5 ?_ | refine w6 ?_ | refine w7 ?_ | refine w8 rfl ?_ | refine w9 rfl ?_ | refine wa ?_ | refine wd ?_ | refine we ?_ | refine wb ?_ | refine wc ?_ | refine wf ?_ | refine wg ?_ | refine wh ?_ | refine wi rfl ?_ | refine wj ?_ | refine wk ?_ | refine wl ?_ | refine wm ?_ | refine wn ?_)
  refine aw_cond rfl (fun g2 => ?_) (fun g2 => ?_)
  case refine_2 =>
    repeat (first | refine w1 rfl rfl ?_ | refine w2 rfl ?_ | refine w3 rfl rfl ?_ | refine w4 ?_ | refine w5 ?_ | refine w6 ?_ | refine w7 ?_ | refine w8 rfl ?_ | refine w9 rfl ?_ | refine wa ?_ | refine wd ?_ | refine we ?_ | refine wb ?_ | refine wc ?_ | refine wf ?_ | refine wg ?_ | refine wh ?_ | refine wi rfl ?_ | refine wj ?_ | refine wk ?_ | refine wl ?_ | refine wm ?_ | refine wn ?_)
    exact rt1 rfl rfl (.refl _) (AHeap.sub_refl _) (hend (fun h => by have := of_decide_eq_false g2; omega))
  have g2' : k < b.size := by have := of_decide_eq_true g2; omega
  have da : a.data.toList.drop k = a.get! k :: a.data.toList.drop (k + 1) := by
    rw [List.drop_eq_getElem_cons (show k < a.data.toList.length by omega), get_bang a k g1']
  have db : b.data.toList.drop k = b.get! k :: b.data.toList.drop (k + 1) := by
    rw [List.drop_eq_getElem_cons (show k < b.data.toList.length by omega), get_bang b k g2']
  repeat (first | refine w1 rfl rfl ?_ | refine w2 rfl ?_ | refine w3 rfl rfl ?_ | refine w4 ?_ | refine w5 ?_ | refine w6 ?_ | refine w7 ?_ | refine w8 rfl ?_ | refine w9 rfl ?_ | refine wa ?_ | refine wd ?_ | refine we ?_ | refine wb ?_ | refine wc ?_ | refine wf ?_ | refine wg ?_ | refine wh ?_ | refine wi rfl ?_ | refine wj ?_ | refine wk ?_ | refine wl ?_ | refine wm ?_ | refine wn ?_)
  refine aw_plan mixed (.take 0 (.take 1 (.take 2 (.take 3 (.take 4 (.take 5 (.take 6 .done))))))) (by kernel_rfl) ?_
  repeat (first | refine d1 rfl rfl rfl rfl ?_ | refine d2 rfl rfl rfl ?_ | refine d3 ?_ | refine d5 rfl rfl rfl ?_)
  refine d_indexs rfl rfl rfl rfl rfl rfl (by omega) (str_get a k g1') ?_
  repeat (first | refine d1 rfl rfl rfl rfl ?_ | refine d2 rfl rfl rfl ?_ | refine d3 ?_ | refine d5 rfl rfl rfl ?_)
  refine d_indexs rfl rfl rfl rfl rfl rfl (by omega) (str_get b k g2') ?_
  repeat (first | refine d1 rfl rfl rfl rfl ?_ | refine d2 rfl rfl rfl ?_ | refine d3 ?_ | refine d5 rfl rfl rfl ?_)
  refine aw_cond rfl (fun e => ?_) (fun e => ?_)
  · have hne : a.get! k ≠ b.get! k := fun h => by rw [h] at e; simp at e
    repeat (first | refine w1 rfl rfl ?_ | refine w2 rfl ?_ | refine w3 rfl rfl ?_ | refine w4 ?_ | refine w5 ?_ | refine w6 ?_ | refine w7 ?_ | refine w8 rfl ?_ | refine w9 rfl ?_ | refine wa ?_ | refine wd ?_ | refine we ?_ | refine wb ?_ | refine wc ?_ | refine wf ?_ | refine wg ?_ | refine wh ?_ | refine wi rfl ?_ | refine wj ?_ | refine wk ?_ | refine wl ?_ | refine wm ?_ | refine wn ?_)
    refine aw_plan mixed (.take 0 (.take 1 (.take 2 (.take 3 (.take 4 (.take 5 (.take 6 (.take 7 .done)))))))) (by kernel_rfl) ?_
    repeat (first | refine d1 rfl rfl rfl rfl ?_ | refine d2 rfl rfl rfl ?_ | refine d3 ?_ | refine d5 rfl rfl rfl ?_)
    refine d_indexs rfl rfl rfl rfl rfl rfl (by omega) (str_get a k g1') ?_
    repeat (first | refine d1 rfl rfl rfl rfl ?_ | refine d2 rfl rfl rfl ?_ | refine d3 ?_ | refine d5 rfl rfl rfl ?_)
    refine d_indexs rfl rfl rfl rfl rfl rfl (by omega) (str_get b k g2') ?_
    repeat (first | refine d1 rfl rfl rfl rfl ?_ | refine d2 rfl rfl rfl ?_ | refine d3 ?_ | refine d5 rfl rfl rfl ?_)
    repeat (first | refine w1 rfl rfl ?_ | refine w2 rfl ?_ | refine w3 rfl rfl ?_ | refine w4 ?_ | refine w5 ?_ | refine w6 ?_ | refine w7 ?_ | refine w8 rfl ?_ | refine w9 rfl ?_ | refine wa ?_ | refine wd ?_ | refine we ?_ | refine wb ?_ | refine wc ?_ | refine wf ?_ | refine wg ?_ | refine wh ?_ | refine wi rfl ?_ | refine wj ?_ | refine wk ?_ | refine wl ?_ | refine wm ?_ | refine wn ?_)
    refine rt1 rfl rfl (.refl _) (AHeap.sub_refl _) ?_
    have : Op.bytesLess a.data.toList b.data.toList = decide (((a.get! k).toNat : Int) < (b.get! k).toNat) := by
      rw [hb, da, db, bless_ne _ _ _ _ hne]
      refine decide_eq_decide.2 ?_
      rw [UInt8.lt_iff_toNat_lt]
      omega
    rw [← this]; exact hK
  · have he : a.get! k = b.get! k := UInt8.toNat_inj.1 (Int.ofNat.inj (show ((a.get! k).toNat : Int) = (b.get! k).toNat by simpa using e))
    repeat (first | refine w1 rfl rfl ?_ | refine w2 rfl ?_ | refine w3 rfl rfl ?_ | refine w4 ?_ | refine w5 ?_ | refine w6 ?_ | refine w7 ?_ | refine w8 rfl ?_ | refine w9 rfl ?_ | refine wa ?_ | refine wd ?_ | refine we ?_ | refine wb ?_ | refine wc ?_ | refine wf ?_ | refine wg ?_ | refine wh ?_ | refine wi rfl ?_ | refine wj ?_ | refine wk ?_ | refine wl ?_ | refine wm ?_ | refine wn ?_)
    refine s_add rfl rfl rfl (by omega) ?_
    repeat (first | refine w1 rfl rfl ?_ | refine w2 rfl ?_ | refine w3 rfl rfl ?_ | refine w4 ?_ | refine w5 ?_ | refine w6 ?_ | refine w7 ?_ | refine w8 rfl ?_ | refine w9 rfl ?_ | refine wa ?_ | refine wd ?_ | refine we ?_ | refine wb ?_ | refine wc ?_ | refine wf ?_ | refine wg ?_ | refine wh ?_ | refine wi rfl ?_ | refine wj ?_ | refine wk ?_ | refine wl ?_ | refine wm ?_ | refine wn ?_)
    refine ⟨k + 1, ⟨g1', g2', ?_⟩, by omega, Fr.sub_cons rfl (Fr.sub_cons rfl (Fr.sub_cons rfl (Fr.sub_nil _))), AHeap.sub_refl _⟩
    rw [hb, da, db, he, bless_eq]
end Abs
end Go.Proofs.Ytpifnlodilcgkaa

set_option linter.unusedVariables false
namespace Go.Proofs.Ytpifnlodilcgkaa
namespace Abs
set_option maxRecDepth 10000

/-! ### the document's chapter 08: nodes -/
def encNames (l : List Ent) : List (List AVal) := l.map fun e => [.s e.name]
def encKids (l : List Ent) : List (List AVal) := l.map fun e => [.i e.node]
def encM (n : Node) : List AVal := [.i n.kind, .i n.mode, .i n.uid, .i n.gid, .s n.data, .sl (encNames n.ents) .no, .sl (encKids n.ents) .no, .s n.target]
theorem names_len (l : List Ent) : (encNames l).length = l.length := by simp [encNames]
theorem kids_len (l : List Ent) : (encKids l).length = l.length := by simp [encKids]
theorem names_get (l : List Ent) (k : Nat) (h : k < l.length) : (encNames l)[(k : Int).toNat]? = some [.s l[k].name] := by simp [encNames, h]
theorem kids_get (l : List Ent) (k : Nat) (h : k < l.length) : (encKids l)[(k : Int).toNat]? = some [.i l[k].node] := by simp [encKids, h]
theorem rin_c {n h : Int} {H : AHeap} {K : AVal → AHeap → Prop} (hK : K (.b (decide (0 ≤ n) && decide (n ≤ h))) H) : ACalls Try.prog 117 [.i n, .i h] H K := by
  refine acalls_body Try.func117 rfl rfl rfl ?_
  repeat (first | refine w1 rfl rfl ?_ | refine w2 rfl ?_ | refine w3 rfl rfl ?_ | refine w4 ?_ | refine w5 ?_ | refine w6 ?_ | refine w7 ?_ | refine w8 rfl ?_ | refine w9 rfl ?_ | refine wa ?_ | refine wd ?_ | refine we ?_ | refine wb ?_ | refine wc ?_ | refine wf ?_ | refine wg ?_ | refine wh ?_ | refine wi rfl ?_ | refine wj ?_ | refine wk ?_ | refine wl ?_ | refine wm ?_ | refine wn ?_)
  refine s_gsplit rfl rfl (fun g1 => ?_) (fun g1 => ?_) <;> repeat (first | refine w1 rfl rfl ?_ | refine w2 rfl ?_ | refine w3 rfl rfl ?_ | refine w4 ?_ | refine w5 ?_ | refine w6 ?_ | refine w7 ?_ | refine w8 rfl ?_ | refine w9 rfl ?_ | refine wa ?_ | refine wd ?_ | refine we ?_ | refine wb ?_ | refine wc ?_ | refine wf ?_ | refine wg ?_ | refine wh ?_ | refine wi rfl ?_ | refine wj ?_ | refine wk ?_ | refine wl ?_ | refine wm ?_ | refine wn ?_)
  · exact rt1 rfl rfl (.refl _) (AHeap.sub_refl _) (by simpa [g1] using hK)
  · exact rt1 rfl rfl (.refl _) (AHeap.sub_refl _) (by simpa [g1] using hK)
def Node.nlen (n : Node) : Prop := n.ents.length ≤ 1073741824 ∧ ∀ e ∈ n.ents, e.name.size ≤ 1073741824
set_option maxHeartbeats 1000000 in
theorem rents_c {n : Node} (hn : n.nlen) {H : AHeap} {K : AVal → AHeap → Prop} (hK : K (.b (rising n.ents)) H) : ACalls Try.prog 118 [.agg (encM n)] H K := by
  refine acalls_body Try.func118 rfl rfl rfl ?_
  obtain ⟨hn1, hn2⟩ := hn
  repeat (first | refine w1 rfl rfl ?_ | refine w2 rfl ?_ | refine w3 rfl rfl ?_ | refine w4 ?_ | refine w5 ?_ | refine w6 ?_ | refine w7 ?_ | refine w8 rfl ?_ | refine w9 rfl ?_ | refine wa ?_ | refine wd ?_ | refine we ?_ | refine wb ?_ | refine wc ?_ | refine wf ?_ | refine wg ?_ | refine wh ?_ | refine wi rfl ?_ | refine wj ?_ | refine wk ?_ | refine wl ?_ | refine wm ?_ | refine wn ?_)
  refine s_box rfl rfl rfl (fun b hb => ?_)
  have hsub : H.sub (H.put b (.cells (encM n))) := sub_new hb (AHeap.sub_refl _)
  have hrd : Rd (H.put b (.cells (encM n))) b (encM n) := .inl (put_same _ _ _)
  have ln := names_len n.ents
  have lk := kids_len n.ents
  generalize hX : H.put b (.cells (encM n)) = X at hsub hrd ⊢
  generalize hl : n.ents = l at *
  have henc : encM n = [.i n.kind, .i n.mode, .i n.uid, .i n.gid, .s n.data, .sl (encNames l) .no, .sl (encKids l) .no, .s n.target] := by rw [← hl]; rfl
  rw [henc] at hrd
  repeat (first | refine w1 rfl rfl ?_ | refine w2 rfl ?_ | refine w3 rfl rfl ?_ | refine w4 ?_ | refine w5 ?_ | refine w6 ?_ | refine w7 ?_ | refine w8 rfl ?_ | refine w9 rfl ?_ | refine wa ?_ | refine wd ?_ | refine we ?_ | refine wb ?_ | refine wc ?_ | refine wf ?_ | refine wg ?_ | refine wh ?_ | refine wi rfl ?_ | refine wj ?_ | refine wk ?_ | refine wl ?_ | refine wm ?_ | refine wn ?_ | refine s_load tk rfl rfl (by assumption) rfl rfl ?_ | refine s_ept tk rfl rfl rfl rfl ?_)
  refine aw_loop (fun k : Nat => k ≤ l.length ∧ risingFrom none l = risingFrom (prevAt l k) (l.drop k)) (fun k => [(1, .ptr b 0), (3, .i k)]) (fun _ => X) (fun k => l.length - k) 0 ⟨Nat.zero_le _, rfl⟩ (Fr.sub_cons rfl (Fr.sub_cons rfl (Fr.sub_nil _))) (AHeap.sub_refl _) ?_
  intro k ⟨hk, hr⟩
  repeat (first | refine w1 rfl rfl ?_ | refine w2 rfl ?_ | refine w3 rfl rfl ?_ | refine w4 ?_ | refine w5 ?_ | refine w6 ?_ | refine w7 ?_ | refine w8 rfl ?_ | refine w9 rfl ?_ | refine wa ?_ | refine wd ?_ | refine we ?_ | refine wb ?_ | refine wc ?_ | refine wf ?_ | refine wg ?_ | refine wh ?_ | refine wi rfl ?_ | refine wj ?_ | refine wk ?_ | refine wl ?_ | refine wm ?_ | refine wn ?_ | refine s_load tk rfl rfl (by assumption) rfl rfl ?_ | refine s_ept tk rfl rfl rfl rfl ?_)
  refine aw_cond rfl (fun c => ?_) (fun c => ?_)
  case refine_2 =>
    have hkl : k = l.length := by have := of_decide_eq_false c; omega
    subst hkl
    repeat (first | refine w1 rfl rfl ?_ | refine w2 rfl ?_ | refine w3 rfl rfl ?_ | refine w4 ?_ | refine w5 ?_ | refine w6 ?_ | refine w7 ?_ | refine w8 rfl ?_ | refine w9 rfl ?_ | refine wa ?_ | refine wd ?_ | refine we ?_ | refine wb ?_ | refine wc ?_ | refine wf ?_ | refine wg ?_ | refine wh ?_ | refine wi rfl ?_ | refine wj ?_ | refine wk ?_ | refine wl ?_ | refine wm ?_ | refine wn ?_ | refine s_load tk rfl rfl (by assumption) rfl rfl ?_ | refine s_ept tk rfl rfl rfl rfl ?_)
    refine rt1 rfl rfl (.refl _) hsub ?_
    have : rising l = decide (((encNames l).length : Int) ≤ 8) := by simp [rising, hr, risingFrom, ln]
    rw [← this]; exact hK
  have c' : k < l.length := by have := of_decide_eq_true c; omega
  repeat (first | refine w1 rfl rfl ?_ | refine w2 rfl ?_ | refine w3 rfl rfl ?_ | refine w4 ?_ | refine w5 ?_ | refine w6 ?_ | refine w7 ?_ | refine w8 rfl ?_ | refine w9 rfl ?_ | refine wa ?_ | refine wd ?_ | refine we ?_ | refine wb ?_ | refine wc ?_ | refine wf ?_ | refine wg ?_ | refine wh ?_ | refine wi rfl ?_ | refine wj ?_ | refine wk ?_ | refine wl ?_ | refine wm ?_ | refine wn ?_ | refine s_load tk rfl rfl (by assumption) rfl rfl ?_ | refine s_ept tk rfl rfl rfl rfl ?_)
  refine s_index tk rfl rfl rfl rfl (by omega) (names_get l k c') rfl ?_
  repeat (first | refine w1 rfl rfl ?_ | refine w2 rfl ?_ | refine w3 rfl rfl ?_ | refine w4 ?_ | refine w5 ?_ | refine w6 ?_ | refine w7 ?_ | refine w8 rfl ?_ | refine w9 rfl ?_ | refine wa ?_ | refine wd ?_ | refine we ?_ | refine wb ?_ | refine wc ?_ | refine wf ?_ | refine wg ?_ | refine wh ?_ | refine wi rfl ?_ | refine wj ?_ | refine wk ?_ | refine wl ?_ | refine wm ?_ | refine wn ?_ | refine s_load tk rfl rfl (by assumption) rfl rfl ?_ | refine s_ept tk rfl rfl rfl rfl ?_)
  refine s_call rfl rfl fk137 ?_
  refine rname_c ?_
  repeat (first | refine w1 rfl rfl ?_ | refine w2 rfl ?_ | refine w3 rfl rfl ?_ | refine w4 ?_ | refine w5 ?_ | refine w6 ?_ | refine w7 ?_ | refine w8 rfl ?_ | refine w9 rfl ?_ | refine wa ?_ | refine wd ?_ | refine we ?_ | refine wb ?_ | refine wc ?_ | refine wf ?_ | refine wg ?_ | refine wh ?_ | refine wi rfl ?_ | refine wj ?_ | refine wk ?_ | refine wl ?_ | refine wm ?_ | refine wn ?_ | refine s_load tk rfl rfl (by assumption) rfl rfl ?_ | refine s_ept tk rfl rfl rfl rfl ?_)
  have hdrop : l.drop k = l[k] :: l.drop (k + 1) := List.drop_eq_getElem_cons c'
  have hnext : prevAt l (k + 1) = some l[k].name := by simp [prevAt, c']
  have hstep : risingFrom none l = (nameOk l[k].name && decide (1 ≤ l[k].node) && (match prevAt l k with | none => true | some p => Op.bytesLess p.toList l[k].name.toList) && risingFrom (some l[k].name) (l.drop (k + 1))) := by rw [hr, hdrop]; rfl
  clear hr hdrop
  have hfalse : rising l = false → K (.b false) H := fun h => by rw [h] at hK; exact hK
  have hnk := hn2 _ (List.getElem_mem c')
  refine aw_prot [b] (allc hrd (allc0 _)) ?_
  have hro := prot_get (bs := [b]) (List.mem_singleton.2 rfl) hrd
  refine aw_plan mixed (.take 0 (.take 1 (.take 2 (.take 3 (.take 4 (.take 5 (.take 6 (.take 7 (.take 8 (.take 9 (.take 10 (.take 11 (.take 12 (.take 13 (.take 14 (.take 15 (.take 16 (.take 17 (.take 18 (.take 19 (.take 20 (.take 21 (.take 22 (.take 23 (.take 24 (.one 25 (.take 26 (.take 27 (.take 28 .done))))))))))))))))))))))))))))) (by kernel_rfl) ?_
  repeat (first | refine d1 rfl rfl rfl rfl ?_ | refine d2 rfl rfl rfl ?_ | refine d3 ?_ | refine d5 rfl rfl rfl ?_ | refine d_ro rfl rfl rfl rfl (by assumption) rfl rfl ?_ | refine d_ept rfl rfl rfl rfl rfl rfl ?_)
  refine d_split rfl rfl rfl (fun g1 => ?_) (fun g1 => ?_)
  · repeat (first | refine d1 rfl rfl rfl rfl ?_ | refine d2 rfl rfl rfl ?_ | refine d3 ?_ | refine d5 rfl rfl rfl ?_ | refine d_ro rfl rfl rfl rfl (by assumption) rfl rfl ?_ | refine d_ept rfl rfl rfl rfl rfl rfl ?_)
    refine prot_done ?_
    repeat (first | refine w1 rfl rfl ?_ | refine w2 rfl ?_ | refine w3 rfl rfl ?_ | refine w4 ?_ | refine w5 ?_ | refine w6 ?_ | refine w7 ?_ | refine w8 rfl ?_ | refine w9 rfl ?_ | refine wa ?_ | refine wd ?_ | refine we ?_ | refine wb ?_ | refine wc ?_ | refine wf ?_ | refine wg ?_ | refine wh ?_ | refine wi rfl ?_ | refine wj ?_ | refine wk ?_ | refine wl ?_ | refine wm ?_ | refine wn ?_ | refine s_load tk rfl rfl (by assumption) rfl rfl ?_ | refine s_ept tk rfl rfl rfl rfl ?_)
    refine rt1 rfl rfl (.refl _) hsub (hfalse ?_)
    have g1' : nameOk l[k].name = false := by simpa using g1
    rw [rising, hstep, g1']; simp
  have g1' : nameOk l[k].name = true := by simpa using g1
  repeat (first | refine d1 rfl rfl rfl rfl ?_ | refine d2 rfl rfl rfl ?_ | refine d3 ?_ | refine d5 rfl rfl rfl ?_ | refine d_ro rfl rfl rfl rfl (by assumption) rfl rfl ?_ | refine d_ept rfl rfl rfl rfl rfl rfl ?_)
  refine d_index rfl rfl rfl rfl rfl rfl (by omega) (kids_get l k c') rfl ?_
  repeat (first | refine d1 rfl rfl rfl rfl ?_ | refine d2 rfl rfl rfl ?_ | refine d3 ?_ | refine d5 rfl rfl rfl ?_ | refine d_ro rfl rfl rfl rfl (by assumption) rfl rfl ?_ | refine d_ept rfl rfl rfl rfl rfl rfl ?_)
  refine d_split rfl rfl rfl (fun g2 => ?_) (fun g2 => ?_)
  · repeat (first | refine d1 rfl rfl rfl rfl ?_ | refine d2 rfl rfl rfl ?_ | refine d3 ?_ | refine d5 rfl rfl rfl ?_ | refine d_ro rfl rfl rfl rfl (by assumption) rfl rfl ?_ | refine d_ept rfl rfl rfl rfl rfl rfl ?_)
    refine prot_done ?_
    repeat (first | refine w1 rfl rfl ?_ | refine w2 rfl ?_ | refine w3 rfl rfl ?_ | refine w4 ?_ | refine w5 ?_ | refine w6 ?_ | refine w7 ?_ | refine w8 rfl ?_ | refine w9 rfl ?_ | refine wa ?_ | refine wd ?_ | refine we ?_ | refine wb ?_ | refine wc ?_ | refine wf ?_ | refine wg ?_ | refine wh ?_ | refine wi rfl ?_ | refine wj ?_ | refine wk ?_ | refine wl ?_ | refine wm ?_ | refine wn ?_ | refine s_load tk rfl rfl (by assumption) rfl rfl ?_ | refine s_ept tk rfl rfl rfl rfl ?_)
    refine rt1 rfl rfl (.refl _) hsub (hfalse ?_)
    have : ¬ 1 ≤ l[k].node := by simp at g2; omega
    rw [rising, hstep, decide_eq_false this]; simp
  have g2' : decide (1 ≤ l[k].node) = true := by simp at g2 ⊢; omega
  repeat (first | refine d1 rfl rfl rfl rfl ?_ | refine d2 rfl rfl rfl ?_ | refine d3 ?_ | refine d5 rfl rfl rfl ?_ | refine d_ro rfl rfl rfl rfl (by assumption) rfl rfl ?_ | refine d_ept rfl rfl rfl rfl rfl rfl ?_)
  refine d_split rfl rfl rfl (fun g3 => ?_) (fun g3 => ?_)
  · have hk0 : 0 < k := by simpa using g3
    have hprev : prevAt l k = some l[k - 1].name := by simp only [prevAt, show ¬ k = 0 by omega, if_false]; rw [List.getElem?_eq_getElem (by omega)]; rfl
    have hpk := hn2 _ (List.getElem_mem (show k - 1 < l.length by omega))
    repeat (first | refine d1 rfl rfl rfl rfl ?_ | refine d2 rfl rfl rfl ?_ | refine d3 ?_ | refine d5 rfl rfl rfl ?_ | refine d_ro rfl rfl rfl rfl (by assumption) rfl rfl ?_ | refine d_ept rfl rfl rfl rfl rfl rfl ?_)
    refine d_sub rfl rfl rfl rfl rfl (by omega) ?_
    repeat (first | refine d1 rfl rfl rfl rfl ?_ | refine d2 rfl rfl rfl ?_ | refine d3 ?_ | refine d5 rfl rfl rfl ?_ | refine d_ro rfl rfl rfl rfl (by assumption) rfl rfl ?_ | refine d_ept rfl rfl rfl rfl rfl rfl ?_)
    refine d_index rfl rfl rfl rfl rfl rfl (by omega) (show (encNames l)[((k : Int) - 1).toNat]? = some [.s l[k - 1].name] by rw [show ((k : Int) - 1).toNat = k - 1 by omega]; simp [encNames, show k - 1 < l.length by omega]) rfl ?_
    repeat (first | refine d1 rfl rfl rfl rfl ?_ | refine d2 rfl rfl rfl ?_ | refine d3 ?_ | refine d5 rfl rfl rfl ?_ | refine d_ro rfl rfl rfl rfl (by assumption) rfl rfl ?_ | refine d_ept rfl rfl rfl rfl rfl rfl ?_)
    refine d_index rfl rfl rfl rfl rfl rfl (by omega) (names_get l k c') rfl ?_
    repeat (first | refine d1 rfl rfl rfl rfl ?_ | refine d2 rfl rfl rfl ?_ | refine d3 ?_ | refine d5 rfl rfl rfl ?_ | refine d_ro rfl rfl rfl rfl (by assumption) rfl rfl ?_ | refine d_ept rfl rfl rfl rfl rfl rfl ?_)
    refine d4 rfl ?_
    refine w2 rfl ?_
    refine s_call rfl rfl fk122 ?_
    refine less_c (by omega) ?_
    refine w4 ?_
    repeat (first | refine d1 rfl rfl rfl rfl ?_ | refine d2 rfl rfl rfl ?_ | refine d3 ?_ | refine d5 rfl rfl rfl ?_ | refine d_ro rfl rfl rfl rfl (by assumption) rfl rfl ?_ | refine d_ept rfl rfl rfl rfl rfl rfl ?_)
    refine prot_done ?_
    repeat (first | refine w1 rfl rfl ?_ | refine w2 rfl ?_ | refine w3 rfl rfl ?_ | refine w4 ?_ | refine w5 ?_ | refine w6 ?_ | refine w7 ?_ | refine w8 rfl ?_ | refine w9 rfl ?_ | refine wa ?_ | refine wd ?_ | refine we ?_ | refine wb ?_ | refine wc ?_ | refine wf ?_ | refine wg ?_ | refine wh ?_ | refine wi rfl ?_ | refine wj ?_ | refine wk ?_ | refine wl ?_ | refine wm ?_ | refine wn ?_ | refine s_load tk rfl rfl (by assumption) rfl rfl ?_ | refine s_ept tk rfl rfl rfl rfl ?_)
    refine aw_cond rfl (fun g4 => ?_) (fun g4 => ?_)
    · repeat (first | refine w1 rfl rfl ?_ | refine w2 rfl ?_ | refine w3 rfl rfl ?_ | refine w4 ?_ | refine w5 ?_ | refine w6 ?_ | refine w7 ?_ | refine w8 rfl ?_ | refine w9 rfl ?_ | refine wa ?_ | refine wd ?_ | refine we ?_ | refine wb ?_ | refine wc ?_ | refine wf ?_ | refine wg ?_ | refine wh ?_ | refine wi rfl ?_ | refine wj ?_ | refine wk ?_ | refine wl ?_ | refine wm ?_ | refine wn ?_ | refine s_load tk rfl rfl (by assumption) rfl rfl ?_ | refine s_ept tk rfl rfl rfl rfl ?_)
      refine rt1 rfl rfl (.refl _) hsub (hfalse ?_)
      have g5 : Op.bytesLess l[k - 1].name.toList l[k].name.toList = false := by simpa using g4
      rw [rising, hstep, hprev]; simp [g5]
    · repeat (first | refine w1 rfl rfl ?_ | refine w2 rfl ?_ | refine w3 rfl rfl ?_ | refine w4 ?_ | refine w5 ?_ | refine w6 ?_ | refine w7 ?_ | refine w8 rfl ?_ | refine w9 rfl ?_ | refine wa ?_ | refine wd ?_ | refine we ?_ | refine wb ?_ | refine wc ?_ | refine wf ?_ | refine wg ?_ | refine wh ?_ | refine wi rfl ?_ | refine wj ?_ | refine wk ?_ | refine wl ?_ | refine wm ?_ | refine wn ?_ | refine s_load tk rfl rfl (by assumption) rfl rfl ?_ | refine s_ept tk rfl rfl rfl rfl ?_)
      refine s_add rfl rfl rfl (by omega) ?_
      repeat (first | refine w1 rfl rfl ?_ | refine w2 rfl ?_ | refine w3 rfl rfl ?_ | refine w4 ?_ | refine w5 ?_ | refine w6 ?_ | refine w7 ?_ | refine w8 rfl ?_ | refine w9 rfl ?_ | refine wa ?_ | refine wd ?_ | refine we ?_ | refine wb ?_ | refine wc ?_ | refine wf ?_ | refine wg ?_ | refine wh ?_ | refine wi rfl ?_ | refine wj ?_ | refine wk ?_ | refine wl ?_ | refine wm ?_ | refine wn ?_ | refine s_load tk rfl rfl (by assumption) rfl rfl ?_ | refine s_ept tk rfl rfl rfl rfl ?_)
      refine ⟨k + 1, ⟨by omega, ?_⟩, by omega, Fr.sub_cons rfl (Fr.sub_cons rfl (Fr.sub_nil _)), AHeap.sub_refl _⟩
      have g5 : Op.bytesLess l[k - 1].name.toList l[k].name.toList = true := by simpa using g4
      rw [hstep, hprev, hnext, g1', g2']; simp only [g5, Bool.and_true, Bool.true_and]
  · have hk0 : k = 0 := by simpa using g3
    repeat (first | refine d1 rfl rfl rfl rfl ?_ | refine d2 rfl rfl rfl ?_ | refine d3 ?_ | refine d5 rfl rfl rfl ?_ | refine d_ro rfl rfl rfl rfl (by assumption) rfl rfl ?_ | refine d_ept rfl rfl rfl rfl rfl rfl ?_)
    refine prot_done ?_
    repeat (first | refine w1 rfl rfl ?_ | refine w2 rfl ?_ | refine w3 rfl rfl ?_ | refine w4 ?_ | refine w5 ?_ | refine w6 ?_ | refine w7 ?_ | refine w8 rfl ?_ | refine w9 rfl ?_ | refine wa ?_ | refine wd ?_ | refine we ?_ | refine wb ?_ | refine wc ?_ | refine wf ?_ | refine wg ?_ | refine wh ?_ | refine wi rfl ?_ | refine wj ?_ | refine wk ?_ | refine wl ?_ | refine wm ?_ | refine wn ?_ | refine s_load tk rfl rfl (by assumption) rfl rfl ?_ | refine s_ept tk rfl rfl rfl rfl ?_)
    refine s_add rfl rfl rfl (by omega) ?_
    repeat (first | refine w1 rfl rfl ?_ | refine w2 rfl ?_ | refine w3 rfl rfl ?_ | refine w4 ?_ | refine w5 ?_ | refine w6 ?_ | refine w7 ?_ | refine w8 rfl ?_ | refine w9 rfl ?_ | refine wa ?_ | refine wd ?_ | refine we ?_ | refine wb ?_ | refine wc ?_ | refine wf ?_ | refine wg ?_ | refine wh ?_ | refine wi rfl ?_ | refine wj ?_ | refine wk ?_ | refine wl ?_ | refine wm ?_ | refine wn ?_ | refine s_load tk rfl rfl (by assumption) rfl rfl ?_ | refine s_ept tk rfl rfl rfl rfl ?_)
    refine ⟨k + 1, ⟨by omega, ?_⟩, by omega, Fr.sub_cons rfl (Fr.sub_cons rfl (Fr.sub_nil _)), AHeap.sub_refl _⟩
    rw [hstep, hnext, g1', g2', prevAt, if_pos hk0]; simp only [Bool.and_true, Bool.true_and]
end Abs
end Go.Proofs.Ytpifnlodilcgkaa

set_option linter.unusedVariables false
namespace Go.Proofs.Ytpifnlodilcgkaa
namespace Abs
set_option maxRecDepth 10000

theorem rkind1 {n : Node} (h : n.kind = 1) : nodeOk n = (decide (0 ≤ n.mode) && decide (n.mode ≤ 4095) && idOk n.uid && idOk n.gid && (decide (n.ents.length = 0) && decide (n.target = ⟨#[]⟩) && decide (n.data.size ≤ 48))) := by
  simp only [nodeOk, if_pos h]
theorem rkind2 {n : Node} (h : n.kind = 2) : nodeOk n = (decide (0 ≤ n.mode) && decide (n.mode ≤ 4095) && idOk n.uid && idOk n.gid && (decide (n.data.size = 0) && decide (n.target = ⟨#[]⟩) && rising n.ents)) := by
  simp only [nodeOk, if_neg (show ¬ n.kind = 1 by omega), if_pos h]
theorem rkind3 {n : Node} (h : n.kind = 3) : nodeOk n = (decide (0 ≤ n.mode) && decide (n.mode ≤ 4095) && idOk n.uid && idOk n.gid && (decide (n.data.size + n.ents.length = 0) && decide (n.mode = 511) && fitsOk n.target)) := by
  simp only [nodeOk, if_neg (show ¬ n.kind = 1 by omega), if_neg (show ¬ n.kind = 2 by omega), if_pos h]
theorem rkind0 {n : Node} (h1 : ¬ n.kind = 1) (h2 : ¬ n.kind = 2) (h3 : ¬ n.kind = 3) : nodeOk n = false := by
  simp only [nodeOk, if_neg h1, if_neg h2, if_neg h3, Bool.and_false]
theorem empty_size (s : ByteArray) : decide (s = ⟨#[]⟩) = decide (s.size = 0) := by
  refine decide_eq_decide.2 ⟨fun h => by subst h; rfl, fun h => ?_⟩
  obtain ⟨x⟩ := s
  have : x = #[] := Array.eq_empty_of_size_eq_zero h
  rw [this]
set_option maxHeartbeats 1000000 in
theorem rright_c {n : Node} (hn : n.nlen) {H : AHeap} {K : AVal → AHeap → Prop} (hK : K (.b (nodeOk n)) H) : ACalls Try.prog 88 [.agg (encM n)] H K := by
  refine acalls_body Try.func88 rfl rfl rfl ?_
  have hn0 := hn
  obtain ⟨hn1, hn2⟩ := hn
  repeat (first | refine w1 rfl rfl ?_ | refine w2 rfl ?_ | refine w3 rfl rfl ?_ | refine w4 ?_ | refine w5 ?_ | refine w6 ?_ | refine w7 ?_ | refine w8 rfl ?_ | refine w9 rfl ?_ | refine wa ?_ | refine wd ?_ | refine we ?_ | refine wb ?_ | refine wc ?_ | refine wf ?_ | refine wg ?_ | refine wh ?_ | refine wi rfl ?_ | refine wj ?_ | refine wk ?_ | refine wl ?_ | refine wm ?_ | refine wn ?_)
  refine s_box rfl rfl rfl (fun b hb => ?_)
  have hsub : H.sub (H.put b (.cells (encM n))) := sub_new hb (AHeap.sub_refl _)
  have hrd : Rd (H.put b (.cells (encM n))) b (encM n) := .inl (put_same _ _ _)
  have ln := names_len n.ents
  have hes := empty_size n.data
  generalize hX : H.put b (.cells (encM n)) = X at hsub hrd ⊢
  repeat (first | refine w1 rfl rfl ?_ | refine w2 rfl ?_ | refine w3 rfl rfl ?_ | refine w4 ?_ | refine w5 ?_ | refine w6 ?_ | refine w7 ?_ | refine w8 rfl ?_ | refine w9 rfl ?_ | refine wa ?_ | refine wd ?_ | refine we ?_ | refine wb ?_ | refine wc ?_ | refine wf ?_ | refine wg ?_ | refine wh ?_ | refine wi rfl ?_ | refine wj ?_ | refine wk ?_ | refine wl ?_ | refine wm ?_ | refine wn ?_ | refine s_load tk rfl rfl (by assumption) rfl rfl ?_ | refine s_ept tk rfl rfl rfl rfl ?_)
  refine s_call rfl rfl fk117 ?_
  refine rin_c ?_
  repeat (first | refine w1 rfl rfl ?_ | refine w2 rfl ?_ | refine w3 rfl rfl ?_ | refine w4 ?_ | refine w5 ?_ | refine w6 ?_ | refine w7 ?_ | refine w8 rfl ?_ | refine w9 rfl ?_ | refine wa ?_ | refine wd ?_ | refine we ?_ | refine wb ?_ | refine wc ?_ | refine wf ?_ | refine wg ?_ | refine wh ?_ | refine wi rfl ?_ | refine wj ?_ | refine wk ?_ | refine wl ?_ | refine wm ?_ | refine wn ?_ | refine s_load tk rfl rfl (by assumption) rfl rfl ?_ | refine s_ept tk rfl rfl rfl rfl ?_)
  have main : ∀ (ok : Bool), ok = (decide (0 ≤ n.mode) && decide (n.mode ≤ 4095) && idOk n.uid && idOk n.gid) → ∀ {F : Fr}, True := fun _ _ _ => trivial
  have idd : ∀ x : Int, idOk x = (decide (0 ≤ x) && decide (x ≤ 65535)) := fun x => rfl
  refine s_gsplit rfl rfl (fun g1 => ?_) (fun g1 => ?_)
  case refine_2 =>
    have hf : nodeOk n = false := by simp only [nodeOk, g1, Bool.false_and]
    rw [hf] at hK
    repeat (first | refine w1 rfl rfl ?_ | refine w2 rfl ?_ | refine w3 rfl rfl ?_ | refine w4 ?_ | refine w5 ?_ | refine w6 ?_ | refine w7 ?_ | refine w8 rfl ?_ | refine w9 rfl ?_ | refine wa ?_ | refine wd ?_ | refine we ?_ | refine wb ?_ | refine wc ?_ | refine wf ?_ | refine wg ?_ | refine wh ?_ | refine wi rfl ?_ | refine wj ?_ | refine wk ?_ | refine wl ?_ | refine wm ?_ | refine wn ?_ | refine s_load tk rfl rfl (by assumption) rfl rfl ?_ | refine s_ept tk rfl rfl rfl rfl ?_)
    refine aw_cond rfl (fun k1 => ?_) (fun k1 => ?_)
    · repeat (first | refine w1 rfl rfl ?_ | refine w2 rfl ?_ | refine w3 rfl rfl ?_ | refine w4 ?_ | refine w5 ?_ | refine w6 ?_ | refine w7 ?_ | refine w8 rfl ?_ | refine w9 rfl ?_ | refine wa ?_ | refine wd ?_ | refine we ?_ | refine wb ?_ | refine wc ?_ | refine wf ?_ | refine wg ?_ | refine wh ?_ | refine wi rfl ?_ | refine wj ?_ | refine wk ?_ | refine wl ?_ | refine wm ?_ | refine wn ?_ | refine s_load tk rfl rfl (by assumption) rfl rfl ?_ | refine s_ept tk rfl rfl rfl rfl ?_)
      exact rt1 rfl rfl (.refl _) hsub hK
    repeat (first | refine w1 rfl rfl ?_ | refine w2 rfl ?_ | refine w3 rfl rfl ?_ | refine w4 ?_ | refine w5 ?_ | refine w6 ?_ | refine w7 ?_ | refine w8 rfl ?_ | refine w9 rfl ?_ | refine wa ?_ | refine wd ?_ | refine we ?_ | refine wb ?_ | refine wc ?_ | refine wf ?_ | refine wg ?_ | refine wh ?_ | refine wi rfl ?_ | refine wj ?_ | refine wk ?_ | refine wl ?_ | refine wm ?_ | refine wn ?_ | refine s_load tk rfl rfl (by assumption) rfl rfl ?_ | refine s_ept tk rfl rfl rfl rfl ?_)
    refine aw_cond rfl (fun k2 => ?_) (fun k2 => ?_)
    · repeat (first | refine w1 rfl rfl ?_ | refine w2 rfl ?_ | refine w3 rfl rfl ?_ | refine w4 ?_ | refine w5 ?_ | refine w6 ?_ | refine w7 ?_ | refine w8 rfl ?_ | refine w9 rfl ?_ | refine wa ?_ | refine wd ?_ | refine we ?_ | refine wb ?_ | refine wc ?_ | refine wf ?_ | refine wg ?_ | refine wh ?_ | refine wi rfl ?_ | refine wj ?_ | refine wk ?_ | refine wl ?_ | refine wm ?_ | refine wn ?_ | refine s_load tk rfl rfl (by assumption) rfl rfl ?_ | refine s_ept tk rfl rfl rfl rfl ?_)
      exact rt1 rfl rfl (.refl _) hsub hK
    · repeat (first | refine w1 rfl rfl ?_ | refine w2 rfl ?_ | refine w3 rfl rfl ?_ | refine w4 ?_ | refine w5 ?_ | refine w6 ?_ | refine w7 ?_ | refine w8 rfl ?_ | refine w9 rfl ?_ | refine wa ?_ | refine wd ?_ | refine we ?_ | refine wb ?_ | refine wc ?_ | refine wf ?_ | refine wg ?_ | refine wh ?_ | refine wi rfl ?_ | refine wj ?_ | refine wk ?_ | refine wl ?_ | refine wm ?_ | refine wn ?_ | refine s_load tk rfl rfl (by assumption) rfl rfl ?_ | refine s_ept tk rfl rfl rfl rfl ?_)
      exact rt1 rfl rfl (.refl _) hsub hK
  repeat (first | refine w1 rfl rfl ?_ | refine w2 rfl ?_ | refine w3 rfl rfl ?_ | refine w4 ?_ | refine w5 ?_ | refine w6 ?_ | refine w7 ?_ | refine w8 rfl ?_ | refine w9 rfl ?_ | refine wa ?_ | refine wd ?_ | refine we ?_ | refine wb ?_ | refine wc ?_ | refine wf ?_ | refine wg ?_ | refine wh ?_ | refine wi rfl ?_ | refine wj ?_ | refine wk ?_ | refine wl ?_ | refine wm ?_ | refine wn ?_ | refine s_load tk rfl rfl (by assumption) rfl rfl ?_ | refine s_ept tk rfl rfl rfl rfl ?_)
  refine s_call rfl rfl fk117 ?_
  refine rin_c ?_
  rw [← idd]
  repeat (first | refine w1 rfl rfl ?_ | refine w2 rfl ?_ | refine w3 rfl rfl ?_ | refine w4 ?_ | refine w5 ?_ | refine w6 ?_ | refine w7 ?_ | refine w8 rfl ?_ | refine w9 rfl ?_ | refine wa ?_ | refine wd ?_ | refine we ?_ | refine wb ?_ | refine wc ?_ | refine wf ?_ | refine wg ?_ | refine wh ?_ | refine wi rfl ?_ | refine wj ?_ | refine wk ?_ | refine wl ?_ | refine wm ?_ | refine wn ?_ | refine s_load tk rfl rfl (by assumption) rfl rfl ?_ | refine s_ept tk rfl rfl rfl rfl ?_)
  refine s_gsplit rfl rfl (fun g2 => ?_) (fun g2 => ?_)
  case refine_2 =>
    have hf : nodeOk n = false := by simp only [nodeOk, g2, Bool.false_and, Bool.and_false]
    rw [hf] at hK
    repeat (first | refine w1 rfl rfl ?_ | refine w2 rfl ?_ | refine w3 rfl rfl ?_ | refine w4 ?_ | refine w5 ?_ | refine w6 ?_ | refine w7 ?_ | refine w8 rfl ?_ | refine w9 rfl ?_ | refine wa ?_ | refine wd ?_ | refine we ?_ | refine wb ?_ | refine wc ?_ | refine wf ?_ | refine wg ?_ | refine wh ?_ | refine wi rfl ?_ | refine wj ?_ | refine wk ?_ | refine wl ?_ | refine wm ?_ | refine wn ?_ | refine s_load tk rfl rfl (by assumption) rfl rfl ?_ | refine s_ept tk rfl rfl rfl rfl ?_)
    refine aw_cond rfl (fun k1 => ?_) (fun k1 => ?_)
    · repeat (first | refine w1 rfl rfl ?_ | refine w2 rfl ?_ | refine w3 rfl rfl ?_ | refine w4 ?_ | refine w5 ?_ | refine w6 ?_ | refine w7 ?_ | refine w8 rfl ?_ | refine w9 rfl ?_ | refine wa ?_ | refine wd ?_ | refine we ?_ | refine wb ?_ | refine wc ?_ | refine wf ?_ | refine wg ?_ | refine wh ?_ | refine wi rfl ?_ | refine wj ?_ | refine wk ?_ | refine wl ?_ | refine wm ?_ | refine wn ?_ | refine s_load tk rfl rfl (by assumption) rfl rfl ?_ | refine s_ept tk rfl rfl rfl rfl ?_)
      exact rt1 rfl rfl (.refl _) hsub hK
    repeat (first | refine w1 rfl rfl ?_ | refine w2 rfl ?_ | refine w3 rfl rfl ?_ | refine w4 ?_ | refine w5 ?_ | refine w6 ?_ | refine w7 ?_ | refine w8 rfl ?_ | refine w9 rfl ?_ | refine wa ?_ | refine wd ?_ | refine we ?_ | refine wb ?_ | refine wc ?_ | refine wf ?_ | refine wg ?_ | refine wh ?_ | refine wi rfl ?_ | refine wj ?_ | refine wk ?_ | refine wl ?_ | refine wm ?_ | refine wn ?_ | refine s_load tk rfl rfl (by assumption) rfl rfl ?_ | refine s_ept tk rfl rfl rfl rfl ?_)
    refine aw_cond rfl (fun k2 => ?_) (fun k2 => ?_)
    · repeat (first | refine w1 rfl rfl ?_ | refine w2 rfl ?_ | refine w3 rfl rfl ?_ | refine w4 ?_ | refine w5 ?_ | refine w6 ?_ | refine w7 ?_ | refine w8 rfl ?_ | refine w9 rfl ?_ | refine wa ?_ | refine wd ?_ | refine we ?_ | refine wb ?_ | refine wc ?_ | refine wf ?_ | refine wg ?_ | refine wh ?_ | refine wi rfl ?_ | refine wj ?_ | refine wk ?_ | refine wl ?_ | refine wm ?_ | refine wn ?_ | refine s_load tk rfl rfl (by assumption) rfl rfl ?_ | refine s_ept tk rfl rfl rfl rfl ?_)
      exact rt1 rfl rfl (.refl _) hsub hK
    · repeat (first | refine w1 rfl rfl ?_ | refine w2 rfl ?_ | refine w3 rfl rfl ?_ | refine w4 ?_ | refine w5 ?_ | refine w6 ?_ | refine w7 ?_ | refine w8 rfl ?_ | refine w9 rfl ?_ | refine wa ?_ | refine wd ?_ | refine we ?_ | refine wb ?_ | refine wc ?_ | refine wf ?_ | refine wg ?_ | refine wh ?_ | refine wi rfl ?_ | refine wj ?_ | refine wk ?_ | refine wl ?_ | refine wm ?_ | refine wn ?_ | refine s_load tk rfl rfl (by assumption) rfl rfl ?_ | refine s_ept tk rfl rfl rfl rfl ?_)
      exact rt1 rfl rfl (.refl _) hsub hK
  repeat (first | refine w1 rfl rfl ?_ | refine w2 rfl ?_ | refine w3 rfl rfl ?_ | refine w4 ?_ | refine w5 ?_ | refine w6 ?_ | refine w7 ?_ | refine w8 rfl ?_ | refine w9 rfl ?_ | refine wa ?_ | refine wd ?_ | refine we ?_ | refine wb ?_ | refine wc ?_ | refine wf ?_ | refine wg ?_ | refine wh ?_ | refine wi rfl ?_ | refine wj ?_ | refine wk ?_ | refine wl ?_ | refine wm ?_ | refine wn ?_ | refine s_load tk rfl rfl (by assumption) rfl rfl ?_ | refine s_ept tk rfl rfl rfl rfl ?_)
  refine s_call rfl rfl fk117 ?_
  refine rin_c ?_
  rw [← idd]
  repeat (first | refine w1 rfl rfl ?_ | refine w2 rfl ?_ | refine w3 rfl rfl ?_ | refine w4 ?_ | refine w5 ?_ | refine w6 ?_ | refine w7 ?_ | refine w8 rfl ?_ | refine w9 rfl ?_ | refine wa ?_ | refine wd ?_ | refine we ?_ | refine wb ?_ | refine wc ?_ | refine wf ?_ | refine wg ?_ | refine wh ?_ | refine wi rfl ?_ | refine wj ?_ | refine wk ?_ | refine wl ?_ | refine wm ?_ | refine wn ?_ | refine s_load tk rfl rfl (by assumption) rfl rfl ?_ | refine s_ept tk rfl rfl rfl rfl ?_)
  refine aw_cond rfl (fun k1 => ?_) (fun k1 => ?_)
  · have k1' : n.kind = 1 := of_decide_eq_true k1
    rw [rkind1 k1', g1, g2, Bool.true_and, Bool.true_and] at hK
    repeat (first | refine w1 rfl rfl ?_ | refine w2 rfl ?_ | refine w3 rfl rfl ?_ | refine w4 ?_ | refine w5 ?_ | refine w6 ?_ | refine w7 ?_ | refine w8 rfl ?_ | refine w9 rfl ?_ | refine wa ?_ | refine wd ?_ | refine we ?_ | refine wb ?_ | refine wc ?_ | refine wf ?_ | refine wg ?_ | refine wh ?_ | refine wi rfl ?_ | refine wj ?_ | refine wk ?_ | refine wl ?_ | refine wm ?_ | refine wn ?_ | refine s_load tk rfl rfl (by assumption) rfl rfl ?_ | refine s_ept tk rfl rfl rfl rfl ?_)
    refine s_gsplit rfl rfl (fun g3 => ?_) (fun g3 => ?_)
    case refine_2 =>
      rw [g3] at hK
      repeat (first | refine w1 rfl rfl ?_ | refine w2 rfl ?_ | refine w3 rfl rfl ?_ | refine w4 ?_ | refine w5 ?_ | refine w6 ?_ | refine w7 ?_ | refine w8 rfl ?_ | refine w9 rfl ?_ | refine wa ?_ | refine wd ?_ | refine we ?_ | refine wb ?_ | refine wc ?_ | refine wf ?_ | refine wg ?_ | refine wh ?_ | refine wi rfl ?_ | refine wj ?_ | refine wk ?_ | refine wl ?_ | refine wm ?_ | refine wn ?_ | refine s_load tk rfl rfl (by assumption) rfl rfl ?_ | refine s_ept tk rfl rfl rfl rfl ?_)
      exact rt1 rfl rfl (.refl _) hsub hK
    rw [g3, Bool.true_and] at hK
    repeat (first | refine w1 rfl rfl ?_ | refine w2 rfl ?_ | refine w3 rfl rfl ?_ | refine w4 ?_ | refine w5 ?_ | refine w6 ?_ | refine w7 ?_ | refine w8 rfl ?_ | refine w9 rfl ?_ | refine wa ?_ | refine wd ?_ | refine we ?_ | refine wb ?_ | refine wc ?_ | refine wf ?_ | refine wg ?_ | refine wh ?_ | refine wi rfl ?_ | refine wj ?_ | refine wk ?_ | refine wl ?_ | refine wm ?_ | refine wn ?_ | refine s_load tk rfl rfl (by assumption) rfl rfl ?_ | refine s_ept tk rfl rfl rfl rfl ?_)
    refine s_gsplit rfl rfl (fun g4 => ?_) (fun g4 => ?_)
    case refine_2 =>
      have : ¬ n.ents.length = 0 := by have := of_decide_eq_false g4; omega
      rw [decide_eq_false this] at hK
      repeat (first | refine w1 rfl rfl ?_ | refine w2 rfl ?_ | refine w3 rfl rfl ?_ | refine w4 ?_ | refine w5 ?_ | refine w6 ?_ | refine w7 ?_ | refine w8 rfl ?_ | refine w9 rfl ?_ | refine wa ?_ | refine wd ?_ | refine we ?_ | refine wb ?_ | refine wc ?_ | refine wf ?_ | refine wg ?_ | refine wh ?_ | refine wi rfl ?_ | refine wj ?_ | refine wk ?_ | refine wl ?_ | refine wm ?_ | refine wn ?_ | refine s_load tk rfl rfl (by assumption) rfl rfl ?_ | refine s_ept tk rfl rfl rfl rfl ?_)
      exact rt1 rfl rfl (.refl _) hsub hK
    have h0 : n.ents.length = 0 := by have := of_decide_eq_true g4; omega
    rw [decide_eq_true h0, Bool.true_and] at hK
    repeat (first | refine w1 rfl rfl ?_ | refine w2 rfl ?_ | refine w3 rfl rfl ?_ | refine w4 ?_ | refine w5 ?_ | refine w6 ?_ | refine w7 ?_ | refine w8 rfl ?_ | refine w9 rfl ?_ | refine wa ?_ | refine wd ?_ | refine we ?_ | refine wb ?_ | refine wc ?_ | refine wf ?_ | refine wg ?_ | refine wh ?_ | refine wi rfl ?_ | refine wj ?_ | refine wk ?_ | refine wl ?_ | refine wm ?_ | refine wn ?_ | refine s_load tk rfl rfl (by assumption) rfl rfl ?_ | refine s_ept tk rfl rfl rfl rfl ?_)
    refine s_gsplit rfl rfl (fun g5 => ?_) (fun g5 => ?_)
    case refine_2 =>
      rw [g5] at hK
      repeat (first | refine w1 rfl rfl ?_ | refine w2 rfl ?_ | refine w3 rfl rfl ?_ | refine w4 ?_ | refine w5 ?_ | refine w6 ?_ | refine w7 ?_ | refine w8 rfl ?_ | refine w9 rfl ?_ | refine wa ?_ | refine wd ?_ | refine we ?_ | refine wb ?_ | refine wc ?_ | refine wf ?_ | refine wg ?_ | refine wh ?_ | refine wi rfl ?_ | refine wj ?_ | refine wk ?_ | refine wl ?_ | refine wm ?_ | refine wn ?_ | refine s_load tk rfl rfl (by assumption) rfl rfl ?_ | refine s_ept tk rfl rfl rfl rfl ?_)
      exact rt1 rfl rfl (.refl _) hsub hK
    rw [g5, Bool.true_and] at hK
    repeat (first | refine w1 rfl rfl ?_ | refine w2 rfl ?_ | refine w3 rfl rfl ?_ | refine w4 ?_ | refine w5 ?_ | refine w6 ?_ | refine w7 ?_ | refine w8 rfl ?_ | refine w9 rfl ?_ | refine wa ?_ | refine wd ?_ | refine we ?_ | refine wb ?_ | refine wc ?_ | refine wf ?_ | refine wg ?_ | refine wh ?_ | refine wi rfl ?_ | refine wj ?_ | refine wk ?_ | refine wl ?_ | refine wm ?_ | refine wn ?_ | refine s_load tk rfl rfl (by assumption) rfl rfl ?_ | refine s_ept tk rfl rfl rfl rfl ?_)
    refine rt1 rfl rfl (.refl _) hsub ?_
    have : decide (((n.data.size : Nat) : Int) ≤ 48) = decide (n.data.size ≤ 48) := decide_eq_decide.2 (by omega)
    rw [this]; exact hK
  have k1' : ¬ n.kind = 1 := of_decide_eq_false k1
  repeat (first | refine w1 rfl rfl ?_ | refine w2 rfl ?_ | refine w3 rfl rfl ?_ | refine w4 ?_ | refine w5 ?_ | refine w6 ?_ | refine w7 ?_ | refine w8 rfl ?_ | refine w9 rfl ?_ | refine wa ?_ | refine wd ?_ | refine we ?_ | refine wb ?_ | refine wc ?_ | refine wf ?_ | refine wg ?_ | refine wh ?_ | refine wi rfl ?_ | refine wj ?_ | refine wk ?_ | refine wl ?_ | refine wm ?_ | refine wn ?_ | refine s_load tk rfl rfl (by assumption) rfl rfl ?_ | refine s_ept tk rfl rfl rfl rfl ?_)
  refine aw_cond rfl (fun k2 => ?_) (fun k2 => ?_)
  · have k2' : n.kind = 2 := of_decide_eq_true k2
    rw [rkind2 k2', g1, g2, Bool.true_and, Bool.true_and, ← hes] at hK
    repeat (first | refine w1 rfl rfl ?_ | refine w2 rfl ?_ | refine w3 rfl rfl ?_ | refine w4 ?_ | refine w5 ?_ | refine w6 ?_ | refine w7 ?_ | refine w8 rfl ?_ | refine w9 rfl ?_ | refine wa ?_ | refine wd ?_ | refine we ?_ | refine wb ?_ | refine wc ?_ | refine wf ?_ | refine wg ?_ | refine wh ?_ | refine wi rfl ?_ | refine wj ?_ | refine wk ?_ | refine wl ?_ | refine wm ?_ | refine wn ?_ | refine s_load tk rfl rfl (by assumption) rfl rfl ?_ | refine s_ept tk rfl rfl rfl rfl ?_)
    refine s_gsplit rfl rfl (fun g3 => ?_) (fun g3 => ?_)
    case refine_2 =>
      rw [g3] at hK
      repeat (first | refine w1 rfl rfl ?_ | refine w2 rfl ?_ | refine w3 rfl rfl ?_ | refine w4 ?_ | refine w5 ?_ | refine w6 ?_ | refine w7 ?_ | refine w8 rfl ?_ | refine w9 rfl ?_ | refine wa ?_ | refine wd ?_ | refine we ?_ | refine wb ?_ | refine wc ?_ | refine wf ?_ | refine wg ?_ | refine wh ?_ | refine wi rfl ?_ | refine wj ?_ | refine wk ?_ | refine wl ?_ | refine wm ?_ | refine wn ?_ | refine s_load tk rfl rfl (by assumption) rfl rfl ?_ | refine s_ept tk rfl rfl rfl rfl ?_)
      exact rt1 rfl rfl (.refl _) hsub hK
    rw [g3, Bool.true_and] at hK
    repeat (first | refine w1 rfl rfl ?_ | refine w2 rfl ?_ | refine w3 rfl rfl ?_ | refine w4 ?_ | refine w5 ?_ | refine w6 ?_ | refine w7 ?_ | refine w8 rfl ?_ | refine w9 rfl ?_ | refine wa ?_ | refine wd ?_ | refine we ?_ | refine wb ?_ | refine wc ?_ | refine wf ?_ | refine wg ?_ | refine wh ?_ | refine wi rfl ?_ | refine wj ?_ | refine wk ?_ | refine wl ?_ | refine wm ?_ | refine wn ?_ | refine s_load tk rfl rfl (by assumption) rfl rfl ?_ | refine s_ept tk rfl rfl rfl rfl ?_)
    refine s_gsplit rfl rfl (fun g4 => ?_) (fun g4 => ?_)
    case refine_2 =>
      rw [g4] at hK
      repeat (first | refine w1 rfl rfl ?_ | refine w2 rfl ?_ | refine w3 rfl rfl ?_ | refine w4 ?_ | refine w5 ?_ | refine w6 ?_ | refine w7 ?_ | refine w8 rfl ?_ | refine w9 rfl ?_ | refine wa ?_ | refine wd ?_ | refine we ?_ | refine wb ?_ | refine wc ?_ | refine wf ?_ | refine wg ?_ | refine wh ?_ | refine wi rfl ?_ | refine wj ?_ | refine wk ?_ | refine wl ?_ | refine wm ?_ | refine wn ?_ | refine s_load tk rfl rfl (by assumption) rfl rfl ?_ | refine s_ept tk rfl rfl rfl rfl ?_)
      exact rt1 rfl rfl (.refl _) hsub hK
    rw [g4, Bool.true_and] at hK
    repeat (first | refine w1 rfl rfl ?_ | refine w2 rfl ?_ | refine w3 rfl rfl ?_ | refine w4 ?_ | refine w5 ?_ | refine w6 ?_ | refine w7 ?_ | refine w8 rfl ?_ | refine w9 rfl ?_ | refine wa ?_ | refine wd ?_ | refine we ?_ | refine wb ?_ | refine wc ?_ | refine wf ?_ | refine wg ?_ | refine wh ?_ | refine wi rfl ?_ | refine wj ?_ | refine wk ?_ | refine wl ?_ | refine wm ?_ | refine wn ?_ | refine s_load tk rfl rfl (by assumption) rfl rfl ?_ | refine s_ept tk rfl rfl rfl rfl ?_)
    refine s_gsplit rfl rfl (fun g5 => ?_) (fun g5 => ?_)
    case refine_2 =>
      rw [g5] at hK
      repeat (first | refine w1 rfl rfl ?_ | refine w2 rfl ?_ | refine w3 rfl rfl ?_ | refine w4 ?_ | refine w5 ?_ | refine w6 ?_ | refine w7 ?_ | refine w8 rfl ?_ | refine w9 rfl ?_ | refine wa ?_ | refine wd ?_ | refine we ?_ | refine wb ?_ | refine wc ?_ | refine wf ?_ | refine wg ?_ | refine wh ?_ | refine wi rfl ?_ | refine wj ?_ | refine wk ?_ | refine wl ?_ | refine wm ?_ | refine wn ?_ | refine s_load tk rfl rfl (by assumption) rfl rfl ?_ | refine s_ept tk rfl rfl rfl rfl ?_)
      exact rt1 rfl rfl (.refl _) hsub hK
    rw [g5, Bool.true_and] at hK
    repeat (first | refine w1 rfl rfl ?_ | refine w2 rfl ?_ | refine w3 rfl rfl ?_ | refine w4 ?_ | refine w5 ?_ | refine w6 ?_ | refine w7 ?_ | refine w8 rfl ?_ | refine w9 rfl ?_ | refine wa ?_ | refine wd ?_ | refine we ?_ | refine wb ?_ | refine wc ?_ | refine wf ?_ | refine wg ?_ | refine wh ?_ | refine wi rfl ?_ | refine wj ?_ | refine wk ?_ | refine wl ?_ | refine wm ?_ | refine wn ?_ | refine s_load tk rfl rfl (by assumption) rfl rfl ?_ | refine s_ept tk rfl rfl rfl rfl ?_)
    refine s_loadw tk rfl rfl hrd rfl rfl ?_
    repeat (first | refine w1 rfl rfl ?_ | refine w2 rfl ?_ | refine w3 rfl rfl ?_ | refine w4 ?_ | refine w5 ?_ | refine w6 ?_ | refine w7 ?_ | refine w8 rfl ?_ | refine w9 rfl ?_ | refine wa ?_ | refine wd ?_ | refine we ?_ | refine wb ?_ | refine wc ?_ | refine wf ?_ | refine wg ?_ | refine wh ?_ | refine wi rfl ?_ | refine wj ?_ | refine wk ?_ | refine wl ?_ | refine wm ?_ | refine wn ?_ | refine s_load tk rfl rfl (by assumption) rfl rfl ?_ | refine s_ept tk rfl rfl rfl rfl ?_)
    refine s_call rfl rfl fk118 ?_
    refine rents_c hn0 ?_
    repeat (first | refine w1 rfl rfl ?_ | refine w2 rfl ?_ | refine w3 rfl rfl ?_ | refine w4 ?_ | refine w5 ?_ | refine w6 ?_ | refine w7 ?_ | refine w8 rfl ?_ | refine w9 rfl ?_ | refine wa ?_ | refine wd ?_ | refine we ?_ | refine wb ?_ | refine wc ?_ | refine wf ?_ | refine wg ?_ | refine wh ?_ | refine wi rfl ?_ | refine wj ?_ | refine wk ?_ | refine wl ?_ | refine wm ?_ | refine wn ?_ | refine s_load tk rfl rfl (by assumption) rfl rfl ?_ | refine s_ept tk rfl rfl rfl rfl ?_)
    exact rt1 rfl rfl (.refl _) hsub hK
  have k2' : ¬ n.kind = 2 := of_decide_eq_false k2
  repeat (first | refine w1 rfl rfl ?_ | refine w2 rfl ?_ | refine w3 rfl rfl ?_ | refine w4 ?_ | refine w5 ?_ | refine w6 ?_ | refine w7 ?_ | refine w8 rfl ?_ | refine w9 rfl ?_ | refine wa ?_ | refine wd ?_ | refine we ?_ | refine wb ?_ | refine wc ?_ | refine wf ?_ | refine wg ?_ | refine wh ?_ | refine wi rfl ?_ | refine wj ?_ | refine wk ?_ | refine wl ?_ | refine wm ?_ | refine wn ?_ | refine s_load tk rfl rfl (by assumption) rfl rfl ?_ | refine s_ept tk rfl rfl rfl rfl ?_)
  refine s_gsplit rfl rfl (fun g3 => ?_) (fun g3 => ?_)
  case refine_2 =>
    have hf : nodeOk n = false := by simp only [nodeOk, g3, Bool.false_and, Bool.and_false]
    rw [hf] at hK
    repeat (first | refine w1 rfl rfl ?_ | refine w2 rfl ?_ | refine w3 rfl rfl ?_ | refine w4 ?_ | refine w5 ?_ | refine w6 ?_ | refine w7 ?_ | refine w8 rfl ?_ | refine w9 rfl ?_ | refine wa ?_ | refine wd ?_ | refine we ?_ | refine wb ?_ | refine wc ?_ | refine wf ?_ | refine wg ?_ | refine wh ?_ | refine wi rfl ?_ | refine wj ?_ | refine wk ?_ | refine wl ?_ | refine wm ?_ | refine wn ?_ | refine s_load tk rfl rfl (by assumption) rfl rfl ?_ | refine s_ept tk rfl rfl rfl rfl ?_)
    exact rt1 rfl rfl (.refl _) hsub hK
  repeat (first | refine w1 rfl rfl ?_ | refine w2 rfl ?_ | refine w3 rfl rfl ?_ | refine w4 ?_ | refine w5 ?_ | refine w6 ?_ | refine w7 ?_ | refine w8 rfl ?_ | refine w9 rfl ?_ | refine wa ?_ | refine wd ?_ | refine we ?_ | refine wb ?_ | refine wc ?_ | refine wf ?_ | refine wg ?_ | refine wh ?_ | refine wi rfl ?_ | refine wj ?_ | refine wk ?_ | refine wl ?_ | refine wm ?_ | refine wn ?_ | refine s_load tk rfl rfl (by assumption) rfl rfl ?_ | refine s_ept tk rfl rfl rfl rfl ?_)
  refine s_gsplit rfl rfl (fun k3 => ?_) (fun k3 => ?_)
  case refine_2 =>
    rw [rkind0 k1' k2' (of_decide_eq_false k3)] at hK
    repeat (first | refine w1 rfl rfl ?_ | refine w2 rfl ?_ | refine w3 rfl rfl ?_ | refine w4 ?_ | refine w5 ?_ | refine w6 ?_ | refine w7 ?_ | refine w8 rfl ?_ | refine w9 rfl ?_ | refine wa ?_ | refine wd ?_ | refine we ?_ | refine wb ?_ | refine wc ?_ | refine wf ?_ | refine wg ?_ | refine wh ?_ | refine wi rfl ?_ | refine wj ?_ | refine wk ?_ | refine wl ?_ | refine wm ?_ | refine wn ?_ | refine s_load tk rfl rfl (by assumption) rfl rfl ?_ | refine s_ept tk rfl rfl rfl rfl ?_)
    exact rt1 rfl rfl (.refl _) hsub hK
  rw [rkind3 (of_decide_eq_true k3), g1, g2, g3, Bool.true_and, Bool.true_and, Bool.true_and] at hK
  repeat (first | refine w1 rfl rfl ?_ | refine w2 rfl ?_ | refine w3 rfl rfl ?_ | refine w4 ?_ | refine w5 ?_ | refine w6 ?_ | refine w7 ?_ | refine w8 rfl ?_ | refine w9 rfl ?_ | refine wa ?_ | refine wd ?_ | refine we ?_ | refine wb ?_ | refine wc ?_ | refine wf ?_ | refine wg ?_ | refine wh ?_ | refine wi rfl ?_ | refine wj ?_ | refine wk ?_ | refine wl ?_ | refine wm ?_ | refine wn ?_ | refine s_load tk rfl rfl (by assumption) rfl rfl ?_ | refine s_ept tk rfl rfl rfl rfl ?_)
  refine s_gsplit rfl rfl (fun g4 => ?_) (fun g4 => ?_)
  case refine_2 =>
    have : ¬ n.data.size + n.ents.length = 0 := by rw [hes] at g4; have := of_decide_eq_false g4; omega
    rw [decide_eq_false this] at hK
    repeat (first | refine w1 rfl rfl ?_ | refine w2 rfl ?_ | refine w3 rfl rfl ?_ | refine w4 ?_ | refine w5 ?_ | refine w6 ?_ | refine w7 ?_ | refine w8 rfl ?_ | refine w9 rfl ?_ | refine wa ?_ | refine wd ?_ | refine we ?_ | refine wb ?_ | refine wc ?_ | refine wf ?_ | refine wg ?_ | refine wh ?_ | refine wi rfl ?_ | refine wj ?_ | refine wk ?_ | refine wl ?_ | refine wm ?_ | refine wn ?_ | refine s_load tk rfl rfl (by assumption) rfl rfl ?_ | refine s_ept tk rfl rfl rfl rfl ?_)
    exact rt1 rfl rfl (.refl _) hsub hK
  have d0 : n.data.size = 0 := by rw [hes] at g4; exact of_decide_eq_true g4
  repeat (first | refine w1 rfl rfl ?_ | refine w2 rfl ?_ | refine w3 rfl rfl ?_ | refine w4 ?_ | refine w5 ?_ | refine w6 ?_ | refine w7 ?_ | refine w8 rfl ?_ | refine w9 rfl ?_ | refine wa ?_ | refine wd ?_ | refine we ?_ | refine wb ?_ | refine wc ?_ | refine wf ?_ | refine wg ?_ | refine wh ?_ | refine wi rfl ?_ | refine wj ?_ | refine wk ?_ | refine wl ?_ | refine wm ?_ | refine wn ?_ | refine s_load tk rfl rfl (by assumption) rfl rfl ?_ | refine s_ept tk rfl rfl rfl rfl ?_)
  refine s_gsplit rfl rfl (fun g5 => ?_) (fun g5 => ?_)
  case refine_2 =>
    have : ¬ n.data.size + n.ents.length = 0 := by have := of_decide_eq_false g5; omega
    rw [decide_eq_false this] at hK
    repeat (first | refine w1 rfl rfl ?_ | refine w2 rfl ?_ | refine w3 rfl rfl ?_ | refine w4 ?_ | refine w5 ?_ | refine w6 ?_ | refine w7 ?_ | refine w8 rfl ?_ | refine w9 rfl ?_ | refine wa ?_ | refine wd ?_ | refine we ?_ | refine wb ?_ | refine wc ?_ | refine wf ?_ | refine wg ?_ | refine wh ?_ | refine wi rfl ?_ | refine wj ?_ | refine wk ?_ | refine wl ?_ | refine wm ?_ | refine wn ?_ | refine s_load tk rfl rfl (by assumption) rfl rfl ?_ | refine s_ept tk rfl rfl rfl rfl ?_)
    exact rt1 rfl rfl (.refl _) hsub hK
  have e0 : n.data.size + n.ents.length = 0 := by have := of_decide_eq_true g5; omega
  rw [decide_eq_true e0, Bool.true_and] at hK
  repeat (first | refine w1 rfl rfl ?_ | refine w2 rfl ?_ | refine w3 rfl rfl ?_ | refine w4 ?_ | refine w5 ?_ | refine w6 ?_ | refine w7 ?_ | refine w8 rfl ?_ | refine w9 rfl ?_ | refine wa ?_ | refine wd ?_ | refine we ?_ | refine wb ?_ | refine wc ?_ | refine wf ?_ | refine wg ?_ | refine wh ?_ | refine wi rfl ?_ | refine wj ?_ | refine wk ?_ | refine wl ?_ | refine wm ?_ | refine wn ?_ | refine s_load tk rfl rfl (by assumption) rfl rfl ?_ | refine s_ept tk rfl rfl rfl rfl ?_)
  refine s_gsplit rfl rfl (fun g6 => ?_) (fun g6 => ?_)
  case refine_2 =>
    rw [g6] at hK
    repeat (first | refine w1 rfl rfl ?_ | refine w2 rfl ?_ | refine w3 rfl rfl ?_ | refine w4 ?_ | refine w5 ?_ | refine w6 ?_ | refine w7 ?_ | refine w8 rfl ?_ | refine w9 rfl ?_ | refine wa ?_ | refine wd ?_ | refine we ?_ | refine wb ?_ | refine wc ?_ | refine wf ?_ | refine wg ?_ | refine wh ?_ | refine wi rfl ?_ | refine wj ?_ | refine wk ?_ | refine wl ?_ | refine wm ?_ | refine wn ?_ | refine s_load tk rfl rfl (by assumption) rfl rfl ?_ | refine s_ept tk rfl rfl rfl rfl ?_)
    exact rt1 rfl rfl (.refl _) hsub hK
  rw [g6, Bool.true_and] at hK
  repeat (first | refine w1 rfl rfl ?_ | refine w2 rfl ?_ | refine w3 rfl rfl ?_ | refine w4 ?_ | refine w5 ?_ | refine w6 ?_ | refine w7 ?_ | refine w8 rfl ?_ | refine w9 rfl ?_ | refine wa ?_ | refine wd ?_ | refine we ?_ | refine wb ?_ | refine wc ?_ | refine wf ?_ | refine wg ?_ | refine wh ?_ | refine wi rfl ?_ | refine wj ?_ | refine wk ?_ | refine wl ?_ | refine wm ?_ | refine wn ?_ | refine s_load tk rfl rfl (by assumption) rfl rfl ?_ | refine s_ept tk rfl rfl rfl rfl ?_)
  refine s_call rfl rfl fk119 ?_
  refine rfits_c ?_
  repeat (first | refine w1 rfl rfl ?_ | refine w2 rfl ?_ | refine w3 rfl rfl ?_ | refine w4 ?_ | refine w5 ?_ | refine w6 ?_ | refine w7 ?_ | refine w8 rfl ?_ | refine w9 rfl ?_ | refine wa ?_ | refine wd ?_ | refine we ?_ | refine wb ?_ | refine wc ?_ | refine wf ?_ | refine wg ?_ | refine wh ?_ | refine wi rfl ?_ | refine wj ?_ | refine wk ?_ | refine wl ?_ | refine wm ?_ | refine wn ?_ | refine s_load tk rfl rfl (by assumption) rfl rfl ?_ | refine s_ept tk rfl rfl rfl rfl ?_)
  exact rt1 rfl rfl (.refl _) hsub hK
end Abs
end Go.Proofs.Ytpifnlodilcgkaa
