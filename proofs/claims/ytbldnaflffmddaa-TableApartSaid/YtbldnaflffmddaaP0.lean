import Derived.Test.YtbldnaflffmddaaA4
import Derived.Test.YtbldnaflffmddaaShelf
import Derived.Test.YtbldnaflffmddaaA10
import Derived.Lib.IndexAny
set_option linter.unusedVariables false
namespace Go.Proofs.Ytbldnaflffmddaa
namespace Abs
set_option maxRecDepth 10000

/-! ### What the library's functions come to -/
def hasB (s : ByteArray) (c : UInt8) : Bool := s.data.toList.contains c

theorem acalls_same {P : Program} {f : FuncId} {vals : List Value} {r : Value} {H : AHeap} {K : AVal → AHeap → Prop} (hr : plainB r = true) (h : ∀ w, Calls P f vals.toArray w fun e w' => e = .returned r ∧ w' = w) (hK : K (.sc r) H) :
    ACalls P f (vals.map .sc) H K := fun g w cargs hi hl hv => by
  have : cargs = vals.toArray := by
    apply Array.ext
    · simpa using hl.symm
    · intro j h1 h2
      have := hv j (by simpa using h2) h1
      simp only [List.getElem_map] at this
      simpa using this.eq_sc
  subst this
  exact (h w).mono fun e w' ⟨he, hw⟩ => ⟨r, g, .sc r, H, he, hw ▸ Ext.refl _ _, hw ▸ hi, .sc (plain_of_B hr), hK⟩

theorem indexByte_lt (l : List UInt8) (c : UInt8) : decide (Lib.indexByte l c < 0) = !l.contains c := by
  induction l with
  | nil => rfl
  | cons b l ih =>
    have hge := Lib.indexByte_ge l c
    unfold Lib.indexByte
    by_cases h : b = c
    · subst h; simp
    · have h1 : (b == c) = false := by simpa using h
      have h2 : (c == b) = false := by simpa using (fun e : c = b => h e.symm)
      rw [if_neg (by simp [h1])]
      simp only [List.contains_cons, h2, Bool.false_or]
      rw [← ih]
      split
      · rename_i h3
        have := beq_iff_eq.1 h3
        simp [this]
      · rename_i h3
        have h4 : ¬ Lib.indexByte l c = -1 := fun e => h3 (by simp [e])
        simp only [decide_eq_decide]
        omega

theorem indexByte_c {s : ByteArray} {c : UInt8} {n : Int} {H : AHeap} {K : AVal → AHeap → Prop} (hn : n = (c.toNat : Int)) (hK : ∀ r : Int, decide (r < 0) = (!hasB s c) → K (.i r) H) : ACalls Try.prog 73 [.s s, .sc (.int .u8 n)] H K := by
  subst hn
  have h := Try.strings_IndexByte s (c.toNat : Int)
  have e : ((c.toNat : Int)).toNat.toUInt8 = c := by simp
  rw [e] at h
  exact acalls_same (vals := [.string s, .int .u8 (c.toNat : Int)]) rfl (fun w => h w) (hK _ (indexByte_lt _ _))

end Abs
end Go.Proofs.Ytbldnaflffmddaa

set_option linter.unusedVariables false
namespace Go.Proofs.Ytbldnaflffmddaa
namespace Abs
open Go.RowKit
set_option maxRecDepth 10000

/-! ### runes -/
theorem get_bang (s : ByteArray) (i : Nat) (h : i < s.size) : s.get! i = s.data.toList[i]'(by rw [Array.length_toList]; exact h) := by
  simp only [ByteArray.get!, Array.getElem_toList]
  rw [getElem!_pos s.data i h]
/-- What a position of a string gives: a byte below 128, or something beyond, out of bytes that are all beyond. -/
theorem decode_cases (s : ByteArray) (p : Nat) (hp : p < s.size) :
    ((Utf8.decode s p).1 = (s.get! p).toNat ∧ (s.get! p).toNat < 128 ∧ (Utf8.decode s p).2 = 1) ∨
    (128 ≤ (Utf8.decode s p).1 ∧ (Utf8.decode s p).1 ≤ 1114111 ∧ 1 ≤ (Utf8.decode s p).2 ∧ ∀ k, k < (Utf8.decode s p).2 → p + k < s.size ∧ 128 ≤ (s.get! (p + k)).toNat) := by
  unfold Utf8.decode
  simp only [Nat.add_zero]
  by_cases h0 : (s.get! p).toNat < 128
  · rw [if_pos h0]; exact .inl ⟨rfl, h0, rfl⟩
  · rw [if_neg h0]
    refine .inr ?_
    have one : ∀ k, k < 1 → p + k < s.size ∧ 128 ≤ (s.get! (p + k)).toNat := fun k hk => by
      have : k = 0 := by omega
      subst this
      exact ⟨hp, by simpa using Nat.le_of_not_lt h0⟩
    have err : 128 ≤ Utf8.runeError ∧ Utf8.runeError ≤ 1114111 ∧ 1 ≤ 1 ∧ ∀ k, k < 1 → p + k < s.size ∧ 128 ≤ (s.get! (p + k)).toNat := ⟨by decide, by decide, Nat.le_refl _, one⟩
    split
    · rename_i hc
      simp only [Bool.and_eq_true, decide_eq_true_eq, beq_iff_eq] at hc
      obtain ⟨hc0, hc1, hc2⟩ := hc
      split
      · refine ⟨by assumption, by omega, Nat.le_of_ble_eq_true rfl, fun k hk => ?_⟩
        rcases Nat.lt_or_ge k 1 with h | h
        · exact one k h
        · have : k = 1 := by omega
          subst this
          exact ⟨hc1, by omega⟩
      · exact err
    · split
      · rename_i hc
        simp only [Bool.and_eq_true, decide_eq_true_eq, beq_iff_eq] at hc
        obtain ⟨⟨hc0, hc1, hc2⟩, hc3, hc4⟩ := hc
        split
        · rename_i hv
          simp only [Bool.and_eq_true, decide_eq_true_eq] at hv
          refine ⟨by omega, by omega, Nat.le_of_ble_eq_true rfl, fun k hk => ?_⟩
          rcases Nat.lt_or_ge k 1 with h | h
          · exact one k h
          · have : k = 1 ∨ k = 2 := by omega
            rcases this with rfl | rfl
            · exact ⟨hc1, by omega⟩
            · exact ⟨hc3, by omega⟩
        · exact err
      · split
        · rename_i hc
          simp only [Bool.and_eq_true, decide_eq_true_eq, beq_iff_eq] at hc
          obtain ⟨⟨⟨hc0, hc1, hc2⟩, hc3, hc4⟩, hc5, hc6⟩ := hc
          split
          · rename_i hv
            simp only [Bool.and_eq_true, decide_eq_true_eq, Utf8.valid, Bool.or_eq_true] at hv
            refine ⟨by omega, by omega, Nat.le_of_ble_eq_true rfl, fun k hk => ?_⟩
            rcases Nat.lt_or_ge k 1 with h | h
            · exact one k h
            · have : k = 1 ∨ k = 2 ∨ k = 3 := by omega
              rcases this with rfl | rfl | rfl
              · exact ⟨hc1, by omega⟩
              · exact ⟨hc3, by omega⟩
              · exact ⟨hc5, by omega⟩
          · exact err
        · exact err

theorem u8_big (n : Nat) (h : n < 256) : (UInt8.ofNat n).toNat = n := by simp; omega
/-- A rune beyond the bytes, as bytes: two or more, the last one beyond. -/
theorem encode_big (c : Nat) (h : 128 ≤ c) (hc : c ≤ 1114111) : 2 ≤ (Utf8.encode c).size ∧ (Utf8.encode c).size ≤ 4 ∧ ((Utf8.encode c).size = 2 → ∃ x y : UInt8, Utf8.encode c = ⟨#[x, y]⟩ ∧ 128 ≤ y.toNat) := by
  unfold Utf8.encode
  have key : ∀ d : Nat, 128 ≤ d → d ≤ 1114111 → ∀ r : ByteArray, (r = if d < 0x80 then ⟨#[UInt8.ofNat d]⟩ else if d < 0x800 then ⟨#[UInt8.ofNat (0xC0 + d / 64), UInt8.ofNat (0x80 + d % 64)]⟩
      else if d < 0x10000 then ⟨#[UInt8.ofNat (0xE0 + d / 4096), UInt8.ofNat (0x80 + d / 64 % 64), UInt8.ofNat (0x80 + d % 64)]⟩
      else ⟨#[UInt8.ofNat (0xF0 + d / 262144), UInt8.ofNat (0x80 + d / 4096 % 64), UInt8.ofNat (0x80 + d / 64 % 64), UInt8.ofNat (0x80 + d % 64)]⟩) → 2 ≤ r.size ∧ r.size ≤ 4 ∧ (r.size = 2 → ∃ x y : UInt8, r = ⟨#[x, y]⟩ ∧ 128 ≤ y.toNat) := by
    intro d h1 h2 r hr
    rw [if_neg (by omega)] at hr
    split at hr
    · subst hr
      exact ⟨Nat.le_of_ble_eq_true rfl, Nat.le_of_ble_eq_true rfl, fun _ => ⟨_, _, rfl, by rw [u8_big _ (by omega)]; omega⟩⟩
    · split at hr
      · subst hr
        exact ⟨Nat.le_of_ble_eq_true rfl, Nat.le_of_ble_eq_true rfl, fun e => by cases e⟩
      · subst hr
        exact ⟨Nat.le_of_ble_eq_true rfl, Nat.le_of_ble_eq_true rfl, fun e => by cases e⟩
  refine key (if Utf8.valid (c : Int) = true then (c : Int).toNat else Utf8.runeError) ?_ ?_ _ rfl
  · split
    · omega
    · decide
  · split
    · omega
    · decide

section
variable {P : Program} {tt : TT} {n : Nat} {ops : Array Oper} {rest : List Oper} {F : Fr} {H : AHeap} {dst : Option Tmp} {ty : TypeId} {pos : String} {af : Array Edge} {K : APost}
theorem s_convrune (tk : TTok tt P) {src d : TypeId} {x : Operand} {j : IntKind} {p : Int} {u : Unit} (hd : dstOk n dst = true) (hx : opd F x = some (.sc (.int j p))) (hs : find tt.ints src = some j) (hdd : find tt.strs d = some u)
    (hK : AOps P n ops rest (F.put dst (.sc (.string (Utf8.encode p)))) H K) : AOps P n ops (⟨dst, .convert src d x, ty, pos, af, none⟩ :: rest) F H K :=
  AOps_cons (op_of_pures (v := .sc (.string (Utf8.encode p))) (fun g a w hf => by
    have e1 := (hf.opd hx).eq_sc
    exact ⟨_, fun w' => by simp [execOp, convert, e1, run_underlying (tk.ints hs), run_underlying (tk.strs hdd), Conv.intToString], .sc trivial⟩) hd hK)
end
theorem acalls_below {P : Program} {f : FuncId} {vals : List Value} {r : Value} {H : AHeap} {K : AVal → AHeap → Prop} (hr : plainB r = true) (h : ∀ w, Calls P f vals.toArray w fun e w' => e = .returned r ∧ Below w.heap.size w w') (hK : K (.sc r) H) :
    ACalls P f (vals.map .sc) H K := fun g w cargs hi hl hv => by
  have : cargs = vals.toArray := by
    apply Array.ext
    · simpa using hl.symm
    · intro j h1 h2
      have := hv j (by simpa using h2) h1
      simp only [List.getElem_map] at this
      simpa using this.eq_sc
  subst this
  refine (h w).mono fun e w' ⟨he, hb⟩ => ?_
  have hext : Ext g w g w' := ⟨rfl, hb.os, hb.tape, hb.output, hb.size, fun k hk => hb.block k (by have := hi.base_le; omega), fun _ => Nat.le_refl _, fun k o ho => ?_, fun k hk => ?_, rfl, fun k hk => hb.block k ?_⟩
  · refine ⟨r, g, .sc r, H, he, hext, ⟨by have := hi.base_le; have := hb.size; omega, fun k hk => hi.fresh k (by have := hb.size; omega), fun k p hp => ?_⟩, .sc (plain_of_B hr), hK⟩
    exact ⟨(hi.obj k p hp).1, (hi.obj k p hp).2.at hext (hb.block k (hi.lt hp))⟩
  · rcases Nat.lt_or_ge k w.heap.size with hk | hk
    · unfold World.cell?
      simp only [hb.block k hk]
    · have := (hi.fresh k hk).1
      omega
  · unfold World.shape?
    simp only [hb.block k hk]
  · rcases Nat.lt_or_ge k w.heap.size with h' | h'
    · exact h'
    · exact absurd hk (hi.fresh k h').2

theorem validRune_c {r : Int} {H : AHeap} {K : AVal → AHeap → Prop} (hK : ∀ b, K (.b b) H) : ACalls Try.prog 100 [.sc (.int .i32 r)] H K :=
  acalls_same (vals := [.int .i32 r]) rfl (fun w => Try.utf8_ValidRune r w) (hK _)
theorem shouldUse_c {n : Int} {H : AHeap} {K : AVal → AHeap → Prop} (hK : K (.b (decide (8 < n))) H) : ACalls Try.prog 97 [.i n] H K :=
  acalls_same (vals := [.int .i64 n]) rfl (fun w => Try.strings_shouldUseASCIISet n w) hK

end Abs
end Go.Proofs.Ytbldnaflffmddaa

set_option linter.unusedVariables false
namespace Go.Proofs.Ytbldnaflffmddaa
namespace Abs
open Go.RowKit
set_option maxRecDepth 10000

theorem has_slz (c : Nat) (h : c < 128) : hasB ⟨#[47, 0]⟩ (UInt8.ofNat c) = (decide (c = 47) || decide (c = 0)) := by
  have key : ∀ c : Fin 128, hasB ⟨#[47, 0]⟩ (UInt8.ofNat c.1) = (decide (c.1 = 47) || decide (c.1 = 0)) := by decide
  exact key ⟨c, h⟩

theorem indexRune_c {c : Nat} (hc : c ≤ 1114111) {H : AHeap} {K : AVal → AHeap → Prop} (hK : ∀ r : Int, decide (r < 0) = (!(decide (c = 47) || decide (c = 0))) → K (.i r) H) :
    ACalls Try.prog 96 [.s ⟨#[47, 0]⟩, .sc (.int .i32 c)] H K := by
  refine acalls_body Try.func96 rfl rfl rfl ?_
  repeat (first | refine w1 rfl rfl ?_ | refine w2 rfl ?_ | refine w3 rfl rfl ?_ | refine w4 ?_ | refine w5 ?_ | refine w6 ?_ | refine w7 ?_ | refine w8 rfl ?_ | refine w9 rfl ?_ | refine wa ?_ | refine wd ?_ | refine we ?_ | refine wb ?_ | refine wc ?_ | refine wf ?_ | refine wg ?_ | refine wh ?_ | refine wi rfl ?_ | refine wj ?_ | refine wk ?_ | refine wl ?_ | refine wm ?_ | refine wn ?_)
  by_cases h128 : c < 128
  · refine aw_cond rfl (fun e => ?_) (fun e => ?_)
    case refine_2 => exact absurd (of_decide_eq_false e) (by omega)
    repeat (first | refine w1 rfl rfl ?_ | refine w2 rfl ?_ | refine w3 rfl rfl ?_ | refine w4 ?_ | refine w5 ?_ | refine w6 ?_ | refine w7 ?_ | refine w8 rfl ?_ | refine w9 rfl ?_ | refine wa ?_ | refine wd ?_ | refine we ?_ | refine wb ?_ | refine wc ?_ | refine wf ?_ | refine wg ?_ | refine wh ?_ | refine wi rfl ?_ | refine wj ?_ | refine wk ?_ | refine wl ?_ | refine wm ?_ | refine wn ?_)
    refine s_conv tk rfl rfl rfl rfl (show IntKind.u8.wrap (c : Int) = c by rw [IntKind.wrap_u8]; omega) ?_
    repeat (first | refine w1 rfl rfl ?_ | refine w2 rfl ?_ | refine w3 rfl rfl ?_ | refine w4 ?_ | refine w5 ?_ | refine w6 ?_ | refine w7 ?_ | refine w8 rfl ?_ | refine w9 rfl ?_ | refine wa ?_ | refine wd ?_ | refine we ?_ | refine wb ?_ | refine wc ?_ | refine wf ?_ | refine wg ?_ | refine wh ?_ | refine wi rfl ?_ | refine wj ?_ | refine wk ?_ | refine wl ?_ | refine wm ?_ | refine wn ?_)
    refine s_call rfl rfl fk73 ?_
    refine indexByte_c (c := UInt8.ofNat c) (by rw [u8_big c (by omega)]) (fun r hr => ?_)
    repeat (first | refine w1 rfl rfl ?_ | refine w2 rfl ?_ | refine w3 rfl rfl ?_ | refine w4 ?_ | refine w5 ?_ | refine w6 ?_ | refine w7 ?_ | refine w8 rfl ?_ | refine w9 rfl ?_ | refine wa ?_ | refine wd ?_ | refine we ?_ | refine wb ?_ | refine wc ?_ | refine wf ?_ | refine wg ?_ | refine wh ?_ | refine wi rfl ?_ | refine wj ?_ | refine wk ?_ | refine wl ?_ | refine wm ?_ | refine wn ?_)
    exact rt1 rfl rfl (.refl _) (AHeap.sub_refl _) (hK r (by rw [hr, has_slz c h128]))
  refine aw_cond rfl (fun e => ?_) (fun _ => ?_)
  · exact absurd (of_decide_eq_true e) (by omega)
  have hneg : decide ((-1 : Int) < 0) = (!(decide (c = 47) || decide (c = 0))) := by
    rw [decide_eq_false (show ¬ c = 47 by omega), decide_eq_false (show ¬ c = 0 by omega)]; rfl
  have hK' := hK (-1) hneg
  clear hK
  repeat (first | refine w1 rfl rfl ?_ | refine w2 rfl ?_ | refine w3 rfl rfl ?_ | refine w4 ?_ | refine w5 ?_ | refine w6 ?_ | refine w7 ?_ | refine w8 rfl ?_ | refine w9 rfl ?_ | refine wa ?_ | refine wd ?_ | refine we ?_ | refine wb ?_ | refine wc ?_ | refine wf ?_ | refine wg ?_ | refine wh ?_ | refine wi rfl ?_ | refine wj ?_ | refine wk ?_ | refine wl ?_ | refine wm ?_ | refine wn ?_)
  refine aw_cond rfl (fun e => ?_) (fun _ => ?_)
  · repeat (first | refine w1 rfl rfl ?_ | refine w2 rfl ?_ | refine w3 rfl rfl ?_ | refine w4 ?_ | refine w5 ?_ | refine w6 ?_ | refine w7 ?_ | refine w8 rfl ?_ | refine w9 rfl ?_ | refine wa ?_ | refine wd ?_ | refine we ?_ | refine wb ?_ | refine wc ?_ | refine wf ?_ | refine wg ?_ | refine wh ?_ | refine wi rfl ?_ | refine wj ?_ | refine wk ?_ | refine wl ?_ | refine wm ?_ | refine wn ?_)
    refine s_range tk rfl rfl rfl (fun b hb => ?_)
    repeat (first | refine w1 rfl rfl ?_ | refine w2 rfl ?_ | refine w3 rfl rfl ?_ | refine w4 ?_ | refine w5 ?_ | refine w6 ?_ | refine w7 ?_ | refine w8 rfl ?_ | refine w9 rfl ?_ | refine wa ?_ | refine wd ?_ | refine we ?_ | refine wb ?_ | refine wc ?_ | refine wf ?_ | refine wg ?_ | refine wh ?_ | refine wi rfl ?_ | refine wj ?_ | refine wk ?_ | refine wl ?_ | refine wm ?_ | refine wn ?_)
    refine aw_loop (fun p : Nat => p ≤ 2) (fun p => [(175, .ptr b 0)]) (fun p => H.put b (.iter ⟨#[47, 0]⟩ p)) (fun p => 2 - p) 0 (by omega) (Fr.sub_cons rfl (Fr.sub_nil _)) (AHeap.sub_refl _) ?_
    intro p hp
    repeat (first | refine w1 rfl rfl ?_ | refine w2 rfl ?_ | refine w3 rfl rfl ?_ | refine w4 ?_ | refine w5 ?_ | refine w6 ?_ | refine w7 ?_ | refine w8 rfl ?_ | refine w9 rfl ?_ | refine wa ?_ | refine wd ?_ | refine we ?_ | refine wb ?_ | refine wc ?_ | refine wf ?_ | refine wg ?_ | refine wh ?_ | refine wi rfl ?_ | refine wj ?_ | refine wk ?_ | refine wl ?_ | refine wm ?_ | refine wn ?_)
    have h3 : p = 0 ∨ p = 1 ∨ p = 2 := by omega
    rcases h3 with rfl | rfl | rfl
    · refine s_next (s := ⟨#[47, 0]⟩) (p := 0) (m := true) rfl rfl (put_same _ _ _) (by decide) ?_
      repeat (first | refine w1 rfl rfl ?_ | refine w2 rfl ?_ | refine w3 rfl rfl ?_ | refine w4 ?_ | refine w5 ?_ | refine w6 ?_ | refine w7 ?_ | refine w8 rfl ?_ | refine w9 rfl ?_ | refine wa ?_ | refine wd ?_ | refine we ?_ | refine wb ?_ | refine wc ?_ | refine wf ?_ | refine wg ?_ | refine wh ?_ | refine wi rfl ?_ | refine wj ?_ | refine wk ?_ | refine wl ?_ | refine wm ?_ | refine wn ?_)
      refine ⟨1, by omega, by omega, Fr.sub_cons rfl (Fr.sub_nil _), ?_⟩
      rw [put_put]
      exact AHeap.sub_refl _
    · refine s_next (s := ⟨#[47, 0]⟩) (p := 1) (m := true) rfl rfl (put_same _ _ _) (by decide) ?_
      repeat (first | refine w1 rfl rfl ?_ | refine w2 rfl ?_ | refine w3 rfl rfl ?_ | refine w4 ?_ | refine w5 ?_ | refine w6 ?_ | refine w7 ?_ | refine w8 rfl ?_ | refine w9 rfl ?_ | refine wa ?_ | refine wd ?_ | refine we ?_ | refine wb ?_ | refine wc ?_ | refine wf ?_ | refine wg ?_ | refine wh ?_ | refine wi rfl ?_ | refine wj ?_ | refine wk ?_ | refine wl ?_ | refine wm ?_ | refine wn ?_)
      refine ⟨2, by omega, by omega, Fr.sub_cons rfl (Fr.sub_nil _), ?_⟩
      rw [put_put]
      exact AHeap.sub_refl _
    · refine s_next_end (s := ⟨#[47, 0]⟩) (p := 2) rfl rfl (put_same _ _ _) (by decide) ?_
      repeat (first | refine w1 rfl rfl ?_ | refine w2 rfl ?_ | refine w3 rfl rfl ?_ | refine w4 ?_ | refine w5 ?_ | refine w6 ?_ | refine w7 ?_ | refine w8 rfl ?_ | refine w9 rfl ?_ | refine wa ?_ | refine wd ?_ | refine we ?_ | refine wb ?_ | refine wc ?_ | refine wf ?_ | refine wg ?_ | refine wh ?_ | refine wi rfl ?_ | refine wj ?_ | refine wk ?_ | refine wl ?_ | refine wm ?_ | refine wn ?_)
      exact rt1 rfl rfl (.refl _) (sub_new hb (AHeap.sub_refl _)) hK'
  repeat (first | refine w1 rfl rfl ?_ | refine w2 rfl ?_ | refine w3 rfl rfl ?_ | refine w4 ?_ | refine w5 ?_ | refine w6 ?_ | refine w7 ?_ | refine w8 rfl ?_ | refine w9 rfl ?_ | refine wa ?_ | refine wd ?_ | refine we ?_ | refine wb ?_ | refine wc ?_ | refine wf ?_ | refine wg ?_ | refine wh ?_ | refine wi rfl ?_ | refine wj ?_ | refine wk ?_ | refine wl ?_ | refine wm ?_ | refine wn ?_)
  refine s_call rfl rfl fk100 ?_
  refine validRune_c (fun v => ?_)
  repeat (first | refine w1 rfl rfl ?_ | refine w2 rfl ?_ | refine w3 rfl rfl ?_ | refine w4 ?_ | refine w5 ?_ | refine w6 ?_ | refine w7 ?_ | refine w8 rfl ?_ | refine w9 rfl ?_ | refine wa ?_ | refine wd ?_ | refine we ?_ | refine wb ?_ | refine wc ?_ | refine wf ?_ | refine wg ?_ | refine wh ?_ | refine wi rfl ?_ | refine wj ?_ | refine wk ?_ | refine wl ?_ | refine wm ?_ | refine wn ?_)
  refine aw_cond rfl (fun e => ?_) (fun _ => ?_)
  · repeat (first | refine w1 rfl rfl ?_ | refine w2 rfl ?_ | refine w3 rfl rfl ?_ | refine w4 ?_ | refine w5 ?_ | refine w6 ?_ | refine w7 ?_ | refine w8 rfl ?_ | refine w9 rfl ?_ | refine wa ?_ | refine wd ?_ | refine we ?_ | refine wb ?_ | refine wc ?_ | refine wf ?_ | refine wg ?_ | refine wh ?_ | refine wi rfl ?_ | refine wj ?_ | refine wk ?_ | refine wl ?_ | refine wm ?_ | refine wn ?_)
    exact rt1 rfl rfl (.refl _) (AHeap.sub_refl _) hK'
  repeat (first | refine w1 rfl rfl ?_ | refine w2 rfl ?_ | refine w3 rfl rfl ?_ | refine w4 ?_ | refine w5 ?_ | refine w6 ?_ | refine w7 ?_ | refine w8 rfl ?_ | refine w9 rfl ?_ | refine wa ?_ | refine wd ?_ | refine we ?_ | refine wb ?_ | refine wc ?_ | refine wf ?_ | refine wg ?_ | refine wh ?_ | refine wi rfl ?_ | refine wj ?_ | refine wk ?_ | refine wl ?_ | refine wm ?_ | refine wn ?_)
  refine s_convrune tk rfl rfl rfl rfl ?_
  obtain ⟨q1, q2, q3⟩ := encode_big c (by omega) hc
  generalize Utf8.encode (c : Int) = s2 at q1 q2 q3
  repeat (first | refine w1 rfl rfl ?_ | refine w2 rfl ?_ | refine w3 rfl rfl ?_ | refine w4 ?_ | refine w5 ?_ | refine w6 ?_ | refine w7 ?_ | refine w8 rfl ?_ | refine w9 rfl ?_ | refine wa ?_ | refine wd ?_ | refine we ?_ | refine wb ?_ | refine wc ?_ | refine wf ?_ | refine wg ?_ | refine wh ?_ | refine wi rfl ?_ | refine wj ?_ | refine wk ?_ | refine wl ?_ | refine wm ?_ | refine wn ?_)
  refine s_sub rfl rfl rfl (by omega) ?_
  repeat (first | refine w1 rfl rfl ?_ | refine w2 rfl ?_ | refine w3 rfl rfl ?_ | refine w4 ?_ | refine w5 ?_ | refine w6 ?_ | refine w7 ?_ | refine w8 rfl ?_ | refine w9 rfl ?_ | refine wa ?_ | refine wd ?_ | refine we ?_ | refine wb ?_ | refine wc ?_ | refine wf ?_ | refine wg ?_ | refine wh ?_ | refine wi rfl ?_ | refine wj ?_ | refine wk ?_ | refine wl ?_ | refine wm ?_ | refine wn ?_)
  refine aw_loop (fun _ : Unit => True) (fun _ => [(0, .s ⟨#[47, 0]⟩), (7, .s s2), (8, .i ((s2.size : Int) - 1)), (9, .i ((s2.size : Int) - 1))]) (fun _ => H) (fun _ => 0) () trivial (Fr.sub_cons rfl (Fr.sub_cons rfl (Fr.sub_cons rfl (Fr.sub_cons rfl (Fr.sub_nil _))))) (AHeap.sub_refl _) ?_
  intro _ _
  repeat (first | refine w1 rfl rfl ?_ | refine w2 rfl ?_ | refine w3 rfl rfl ?_ | refine w4 ?_ | refine w5 ?_ | refine w6 ?_ | refine w7 ?_ | refine w8 rfl ?_ | refine w9 rfl ?_ | refine wa ?_ | refine wd ?_ | refine we ?_ | refine wb ?_ | refine wc ?_ | refine wf ?_ | refine wg ?_ | refine wh ?_ | refine wi rfl ?_ | refine wj ?_ | refine wk ?_ | refine wl ?_ | refine wm ?_ | refine wn ?_)
  refine aw_cond rfl (fun e => ?_) (fun e => ?_)
  case refine_2 =>
    repeat (first | refine w1 rfl rfl ?_ | refine w2 rfl ?_ | refine w3 rfl rfl ?_ | refine w4 ?_ | refine w5 ?_ | refine w6 ?_ | refine w7 ?_ | refine w8 rfl ?_ | refine w9 rfl ?_ | refine wa ?_ | refine wd ?_ | refine we ?_ | refine wb ?_ | refine wc ?_ | refine wf ?_ | refine wg ?_ | refine wh ?_ | refine wi rfl ?_ | refine wj ?_ | refine wk ?_ | refine wl ?_ | refine wm ?_ | refine wn ?_)
    exact rt1 rfl rfl (.refl _) (AHeap.sub_refl _) hK'
  have e2 : s2.size = 2 := by
    have : (s2.size : Int) - 1 < 2 := of_decide_eq_true e
    omega
  obtain ⟨x, y, rfl, hy⟩ := q3 e2
  repeat (first | refine w1 rfl rfl ?_ | refine w2 rfl ?_ | refine w3 rfl rfl ?_ | refine w4 ?_ | refine w5 ?_ | refine w6 ?_ | refine w7 ?_ | refine w8 rfl ?_ | refine w9 rfl ?_ | refine wa ?_ | refine wd ?_ | refine we ?_ | refine wb ?_ | refine wc ?_ | refine wf ?_ | refine wg ?_ | refine wh ?_ | refine wi rfl ?_ | refine wj ?_ | refine wk ?_ | refine wl ?_ | refine wm ?_ | refine wn ?_)
  refine aw_plan mixed (.take 0 (.take 1 (.take 2 (.take 3 (.take 4 (.take 5 (.take 6 .done))))))) (by kernel_rfl) ?_
  repeat (first | refine d1 rfl rfl rfl rfl ?_ | refine d2 rfl rfl rfl ?_ | refine d3 ?_ | refine d5 rfl rfl rfl ?_)
  refine d_indexs rfl rfl rfl rfl rfl rfl (show (0 : Int) ≤ 1 by decide) (c := 0) rfl ?_
  repeat (first | refine d1 rfl rfl rfl rfl ?_ | refine d2 rfl rfl rfl ?_ | refine d3 ?_ | refine d5 rfl rfl rfl ?_)
  refine d_indexs rfl rfl rfl rfl rfl rfl (show (0 : Int) ≤ 1 by decide) (c := y) rfl ?_
  repeat (first | refine d1 rfl rfl rfl rfl ?_ | refine d2 rfl rfl rfl ?_ | refine d3 ?_ | refine d5 rfl rfl rfl ?_)
  refine aw_cond rfl (fun e3 => ?_) (fun e3 => ?_)
  case refine_2 =>
    exfalso
    simp at e3
    omega
  repeat (first | refine w1 rfl rfl ?_ | refine w2 rfl ?_ | refine w3 rfl rfl ?_ | refine w4 ?_ | refine w5 ?_ | refine w6 ?_ | refine w7 ?_ | refine w8 rfl ?_ | refine w9 rfl ?_ | refine wa ?_ | refine wd ?_ | refine we ?_ | refine wb ?_ | refine wc ?_ | refine wf ?_ | refine wg ?_ | refine wh ?_ | refine wi rfl ?_ | refine wj ?_ | refine wk ?_ | refine wl ?_ | refine wm ?_ | refine wn ?_)
  refine aw_plan mixed (.take 0 (.take 1 (.take 2 (.take 3 (.take 4 (.take 5 (.take 6 (.one 7 (.take 8 .done))))))))) (by kernel_rfl) ?_
  repeat (first | refine d1 rfl rfl rfl rfl ?_ | refine d2 rfl rfl rfl ?_ | refine d3 ?_ | refine d5 rfl rfl rfl ?_)
  refine d_add rfl rfl rfl rfl rfl (show -9223372036854775808 ≤ (1 : Int) + 1 ∧ (1 : Int) + 1 ≤ 9223372036854775807 by decide) ?_
  repeat (first | refine d1 rfl rfl rfl rfl ?_ | refine d2 rfl rfl rfl ?_ | refine d3 ?_ | refine d5 rfl rfl rfl ?_)
  refine d_stab rfl rfl rfl (pures_slice_str (s := ⟨#[47, 0]⟩) (l := 2) (h := 2) tk rfl rfl rfl rfl (by decide) (by decide) (by decide)).stab ?_
  repeat (first | refine d1 rfl rfl rfl rfl ?_ | refine d2 rfl rfl rfl ?_ | refine d3 ?_ | refine d5 rfl rfl rfl ?_)
  refine d_indexs rfl rfl rfl rfl rfl rfl (show (0 : Int) ≤ 1 by decide) (c := y) rfl ?_
  repeat (first | refine d1 rfl rfl rfl rfl ?_ | refine d2 rfl rfl rfl ?_ | refine d3 ?_ | refine d5 rfl rfl rfl ?_)
  refine d4 rfl ?_
  refine s_call rfl rfl fk73 ?_
  refine indexByte_c (c := y) rfl (fun r hr => ?_)
  refine w4 ?_
  repeat (first | refine d1 rfl rfl rfl rfl ?_ | refine d2 rfl rfl rfl ?_ | refine d3 ?_ | refine d5 rfl rfl rfl ?_)
  have hr' : decide (r < 0) = true := by rw [hr]; rfl
  repeat (first | refine w1 rfl rfl ?_ | refine w2 rfl ?_ | refine w3 rfl rfl ?_ | refine w4 ?_ | refine w5 ?_ | refine w6 ?_ | refine w7 ?_ | refine w8 rfl ?_ | refine w9 rfl ?_ | refine wa ?_ | refine wd ?_ | refine we ?_ | refine wb ?_ | refine wc ?_ | refine wf ?_ | refine wg ?_ | refine wh ?_ | refine wi rfl ?_ | refine wj ?_ | refine wk ?_ | refine wl ?_ | refine wm ?_ | refine wn ?_)
  refine aw_cond rfl (fun _ => ?_) (fun e => ?_)
  · repeat (first | refine w1 rfl rfl ?_ | refine w2 rfl ?_ | refine w3 rfl rfl ?_ | refine w4 ?_ | refine w5 ?_ | refine w6 ?_ | refine w7 ?_ | refine w8 rfl ?_ | refine w9 rfl ?_ | refine wa ?_ | refine wd ?_ | refine we ?_ | refine wb ?_ | refine wc ?_ | refine wf ?_ | refine wg ?_ | refine wh ?_ | refine wi rfl ?_ | refine wj ?_ | refine wk ?_ | refine wl ?_ | refine wm ?_ | refine wn ?_)
    exact rt1 rfl rfl (.refl _) (AHeap.sub_refl _) hK'
  · rw [hr'] at e; cases e
theorem hasB_iff (s : ByteArray) (c : UInt8) : hasB s c = true ↔ ∃ j, j < s.size ∧ s.get! j = c := by
  unfold hasB
  rw [List.contains_iff_mem]
  constructor
  · intro h
    obtain ⟨j, hj, rfl⟩ := List.getElem_of_mem h
    have hj' : j < s.size := by rw [Array.length_toList] at hj; exact hj
    exact ⟨j, hj', get_bang s j hj'⟩
  · rintro ⟨j, hj, rfl⟩
    rw [get_bang s j hj]
    exact List.getElem_mem _
theorem indexAny_c {s : ByteArray} (hs : s.size ≤ 8) {H : AHeap} {K : AVal → AHeap → Prop} (hK : ∀ r : Int, decide (0 ≤ r) = (hasB s 47 || hasB s 0) → K (.i r) H) :
    ACalls Try.prog 93 [.s s, .s ⟨#[47, 0]⟩] H K := by
  refine acalls_body Try.func93 rfl rfl rfl ?_
  repeat (first | refine w1 rfl rfl ?_ | refine w2 rfl ?_ | refine w3 rfl rfl ?_ | refine w4 ?_ | refine w5 ?_ | refine w6 ?_ | refine w7 ?_ | refine w8 rfl ?_ | refine w9 rfl ?_ | refine wa ?_ | refine wd ?_ | refine we ?_ | refine wb ?_ | refine wc ?_ | refine wf ?_ | refine wg ?_ | refine wh ?_ | refine wi rfl ?_ | refine wj ?_ | refine wk ?_ | refine wl ?_ | refine wm ?_ | refine wn ?_)
  refine s_call rfl rfl fk97 ?_
  refine shouldUse_c ?_
  repeat (first | refine w1 rfl rfl ?_ | refine w2 rfl ?_ | refine w3 rfl rfl ?_ | refine w4 ?_ | refine w5 ?_ | refine w6 ?_ | refine w7 ?_ | refine w8 rfl ?_ | refine w9 rfl ?_ | refine wa ?_ | refine wd ?_ | refine we ?_ | refine wb ?_ | refine wc ?_ | refine wf ?_ | refine wg ?_ | refine wh ?_ | refine wi rfl ?_ | refine wj ?_ | refine wk ?_ | refine wl ?_ | refine wm ?_ | refine wn ?_)
  refine aw_cond rfl (fun e => ?_) (fun _ => ?_)
  · exact absurd (of_decide_eq_true e) (by omega)
  repeat (first | refine w1 rfl rfl ?_ | refine w2 rfl ?_ | refine w3 rfl rfl ?_ | refine w4 ?_ | refine w5 ?_ | refine w6 ?_ | refine w7 ?_ | refine w8 rfl ?_ | refine w9 rfl ?_ | refine wa ?_ | refine wd ?_ | refine we ?_ | refine wb ?_ | refine wc ?_ | refine wf ?_ | refine wg ?_ | refine wh ?_ | refine wi rfl ?_ | refine wj ?_ | refine wk ?_ | refine wl ?_ | refine wm ?_ | refine wn ?_)
  refine s_range tk rfl rfl rfl (fun b hb => ?_)
  repeat (first | refine w1 rfl rfl ?_ | refine w2 rfl ?_ | refine w3 rfl rfl ?_ | refine w4 ?_ | refine w5 ?_ | refine w6 ?_ | refine w7 ?_ | refine w8 rfl ?_ | refine w9 rfl ?_ | refine wa ?_ | refine wd ?_ | refine we ?_ | refine wb ?_ | refine wc ?_ | refine wf ?_ | refine wg ?_ | refine wh ?_ | refine wi rfl ?_ | refine wj ?_ | refine wk ?_ | refine wl ?_ | refine wm ?_ | refine wn ?_)
  refine aw_loop (fun p : Nat => ∀ j, j < p → j < s.size → (s.get! j).toNat ≠ 47 ∧ (s.get! j).toNat ≠ 0) (fun p => [(0, .s s), (1, .s ⟨#[47, 0]⟩), (45, .ptr b 0)]) (fun p => H.put b (.iter s p)) (fun p => s.size - p) 0
    (fun j h => absurd h (Nat.not_lt_zero _)) (Fr.sub_cons rfl (Fr.sub_cons rfl (Fr.sub_cons rfl (Fr.sub_nil _)))) (AHeap.sub_refl _) ?_
  intro p hp
  repeat (first | refine w1 rfl rfl ?_ | refine w2 rfl ?_ | refine w3 rfl rfl ?_ | refine w4 ?_ | refine w5 ?_ | refine w6 ?_ | refine w7 ?_ | refine w8 rfl ?_ | refine w9 rfl ?_ | refine wa ?_ | refine wd ?_ | refine we ?_ | refine wb ?_ | refine wc ?_ | refine wf ?_ | refine wg ?_ | refine wh ?_ | refine wi rfl ?_ | refine wj ?_ | refine wk ?_ | refine wl ?_ | refine wm ?_ | refine wn ?_)
  rcases Nat.lt_or_ge p s.size with hlt | hge
  · refine s_next (s := s) (p := p) (m := true) rfl rfl (put_same _ _ _) hlt ?_
    rw [put_put]
    have hdc := decode_cases s p hlt
    generalize (Utf8.decode s p).1 = c at hdc ⊢
    generalize (Utf8.decode s p).2 = w at hdc ⊢
    have hbyte : c < 128 → c = (s.get! p).toNat := fun h => by
      rcases hdc with h1 | h1
      · exact h1.1
      · omega
    have hc : c ≤ 1114111 := by rcases hdc with h1 | h1 <;> omega
    have hw : 1 ≤ w := by rcases hdc with h1 | h1 <;> omega
    repeat (first | refine w1 rfl rfl ?_ | refine w2 rfl ?_ | refine w3 rfl rfl ?_ | refine w4 ?_ | refine w5 ?_ | refine w6 ?_ | refine w7 ?_ | refine w8 rfl ?_ | refine w9 rfl ?_ | refine wa ?_ | refine wd ?_ | refine we ?_ | refine wb ?_ | refine wc ?_ | refine wf ?_ | refine wg ?_ | refine wh ?_ | refine wi rfl ?_ | refine wj ?_ | refine wk ?_ | refine wl ?_ | refine wm ?_ | refine wn ?_)
    refine s_call rfl rfl fk96 ?_
    refine indexRune_c hc (fun r hr => ?_)
    repeat (first | refine w1 rfl rfl ?_ | refine w2 rfl ?_ | refine w3 rfl rfl ?_ | refine w4 ?_ | refine w5 ?_ | refine w6 ?_ | refine w7 ?_ | refine w8 rfl ?_ | refine w9 rfl ?_ | refine wa ?_ | refine wd ?_ | refine we ?_ | refine wb ?_ | refine wc ?_ | refine wf ?_ | refine wg ?_ | refine wh ?_ | refine wi rfl ?_ | refine wj ?_ | refine wk ?_ | refine wl ?_ | refine wm ?_ | refine wn ?_)
    refine aw_cond rfl (fun e => ?_) (fun e => ?_)
    · have hr0 : decide (r < 0) = false := by
        have := of_decide_eq_true e
        exact decide_eq_false (by omega)
      rw [hr0] at hr
      have hcc : c = 47 ∨ c = 0 := by
        cases hx : (decide (c = 47) || decide (c = 0)) with
        | false => rw [hx] at hr; cases hr
        | true => simpa only [Bool.or_eq_true, decide_eq_true_eq] using hx
      repeat (first | refine w1 rfl rfl ?_ | refine w2 rfl ?_ | refine w3 rfl rfl ?_ | refine w4 ?_ | refine w5 ?_ | refine w6 ?_ | refine w7 ?_ | refine w8 rfl ?_ | refine w9 rfl ?_ | refine wa ?_ | refine wd ?_ | refine we ?_ | refine wb ?_ | refine wc ?_ | refine wf ?_ | refine wg ?_ | refine wh ?_ | refine wi rfl ?_ | refine wj ?_ | refine wk ?_ | refine wl ?_ | refine wm ?_ | refine wn ?_)
      refine rt1 rfl rfl (.refl _) (sub_new hb (AHeap.sub_refl _)) (hK _ ?_)
      rw [decide_eq_true (show (0 : Int) ≤ (p : Int) by omega)]
      symm
      have hcb := hbyte (by omega)
      rw [Bool.or_eq_true, hasB_iff, hasB_iff]
      rcases hcc with h | h
      · exact .inl ⟨p, hlt, UInt8.toNat_inj.1 (by rw [← hcb, h]; rfl)⟩
      · exact .inr ⟨p, hlt, UInt8.toNat_inj.1 (by rw [← hcb, h]; rfl)⟩
    · have hr0 : decide (r < 0) = true := by
        have := of_decide_eq_false e
        exact decide_eq_true (by omega)
      rw [hr0] at hr
      have hcc : ¬ (c = 47 ∨ c = 0) := by
        cases hx : (decide (c = 47) || decide (c = 0)) with
        | true => rw [hx] at hr; cases hr
        | false =>
          intro h
          rw [← decide_eq_true_eq (p := c = 47), ← decide_eq_true_eq (p := c = 0), ← Bool.or_eq_true, hx] at h
          cases h
      repeat (first | refine w1 rfl rfl ?_ | refine w2 rfl ?_ | refine w3 rfl rfl ?_ | refine w4 ?_ | refine w5 ?_ | refine w6 ?_ | refine w7 ?_ | refine w8 rfl ?_ | refine w9 rfl ?_ | refine wa ?_ | refine wd ?_ | refine we ?_ | refine wb ?_ | refine wc ?_ | refine wf ?_ | refine wg ?_ | refine wh ?_ | refine wi rfl ?_ | refine wj ?_ | refine wk ?_ | refine wl ?_ | refine wm ?_ | refine wn ?_)
      refine ⟨p + w, fun j hj hjs => ?_, by omega, Fr.sub_cons rfl (Fr.sub_cons rfl (Fr.sub_cons rfl (Fr.sub_nil _))), AHeap.sub_refl _⟩
      rcases Nat.lt_or_ge j p with h | h
      · exact hp j h hjs
      · rcases hdc with ⟨h1, h2, h3⟩ | ⟨h1, h2, h3, h4⟩
        · have : j = p := by omega
          subst this
          rw [← h1]
          exact ⟨fun e => hcc (.inl e), fun e => hcc (.inr e)⟩
        · have := (h4 (j - p) (by omega)).2
          rw [show p + (j - p) = j by omega] at this
          omega
  · refine s_next_end (s := s) (p := p) rfl rfl (put_same _ _ _) hge ?_
    repeat (first | refine w1 rfl rfl ?_ | refine w2 rfl ?_ | refine w3 rfl rfl ?_ | refine w4 ?_ | refine w5 ?_ | refine w6 ?_ | refine w7 ?_ | refine w8 rfl ?_ | refine w9 rfl ?_ | refine wa ?_ | refine wd ?_ | refine we ?_ | refine wb ?_ | refine wc ?_ | refine wf ?_ | refine wg ?_ | refine wh ?_ | refine wi rfl ?_ | refine wj ?_ | refine wk ?_ | refine wl ?_ | refine wm ?_ | refine wn ?_)
    refine rt1 rfl rfl (.refl _) (sub_new hb (AHeap.sub_refl _)) (hK _ ?_)
    rw [decide_eq_false (show ¬ (0 : Int) ≤ -1 by decide)]
    symm
    rw [Bool.or_eq_false_iff]
    refine ⟨Bool.eq_false_iff.2 fun h => ?_, Bool.eq_false_iff.2 fun h => ?_⟩
    · obtain ⟨j, hj, e⟩ := (hasB_iff s 47).1 h
      exact (hp j (by omega) hj).1 (by rw [e]; rfl)
    · obtain ⟨j, hj, e⟩ := (hasB_iff s 0).1 h
      exact (hp j (by omega) hj).2 (by rw [e]; rfl)
theorem indexAny_has : ∀ l : List UInt8, decide (0 ≤ Lib.indexAny l [47, 0]) = (l.contains 47 || l.contains 0)
  | [] => rfl
  | b :: l => by
    have ih := indexAny_has l
    have hge := Lib.indexAny_ge [47, 0] l
    unfold Lib.indexAny
    by_cases h : ([47, 0] : List UInt8).contains b = true
    · rw [if_pos h]
      simp only [List.contains_cons] at h ⊢
      have h2 : b = 47 ∨ b = 0 := by simpa using h
      rcases h2 with rfl | rfl <;> simp
    · rw [if_neg h]
      have h2 : ¬ (b = 47 ∨ b = 0) := by simpa using h
      have h3 : ((47 : UInt8) == b) = false := by simpa using (fun e : (47 : UInt8) = b => h2 (.inl e.symm))
      have h4 : ((0 : UInt8) == b) = false := by simpa using (fun e : (0 : UInt8) = b => h2 (.inr e.symm))
      simp only [List.contains_cons, h3, h4, Bool.false_or]
      rw [← ih]
      split
      · rename_i h5
        have := beq_iff_eq.1 h5
        rw [this]
      · rename_i h5
        have h6 : ¬ Lib.indexAny l [47, 0] = -1 := fun e => h5 (by simp [e])
        simp only [decide_eq_decide]
        omega
/-- ContainsAny(s, "/\x00"): does a slash or a zero stand in s? -/
theorem containsAny_c {s : ByteArray} {H : AHeap} {K : AVal → AHeap → Prop} (hs : s.size < 4294967281) (hK : K (.b (hasB s 47 || hasB s 0)) H) : ACalls Try.prog 85 [.s s, .s ⟨#[47, 0]⟩] H K := by
  refine acalls_body Try.func85 rfl rfl rfl ?_
  repeat (first | refine w1 rfl rfl ?_ | refine w2 rfl ?_ | refine w3 rfl rfl ?_ | refine w4 ?_ | refine w5 ?_ | refine w6 ?_ | refine w7 ?_ | refine w8 rfl ?_ | refine w9 rfl ?_ | refine wa ?_ | refine wd ?_ | refine we ?_ | refine wb ?_ | refine wc ?_ | refine wf ?_ | refine wg ?_ | refine wh ?_ | refine wi rfl ?_ | refine wj ?_ | refine wk ?_ | refine wl ?_ | refine wm ?_ | refine wn ?_)
  refine s_call rfl rfl fk93 ?_
  have fin : ∀ r : Int, decide (0 ≤ r) = (hasB s 47 || hasB s 0) → K (.b (decide (0 ≤ r))) H := fun r hr => by rw [hr]; exact hK
  rcases Nat.lt_or_ge 8 s.size with h8 | h8
  · have hz := (Go.zero_of_info (P := Try.prog) (t := 151) (v := .agg (Array.replicate 256 (.bool false))) (n := 256) (by kernel_rfl)).1
    refine acalls_below (vals := [.string s, .string ⟨#[47, 0]⟩]) rfl (fun w => (Try.strings_IndexAny_long hz s ⟨#[47, 0]⟩ w (Nat.le_refl _) h8 hs (by decide) ?_).mono fun e w' ⟨he, hw⟩ => ⟨he, ?_⟩) ?_
    · intro j b hb
      match j, hb with
      | 0, hb => cases hb; decide
      | 1, hb => cases hb; decide
    · rw [hw]
      exact ((Below.refl _ _).alloc (Nat.le_refl _) _).alloc (by simp) _
    · repeat (first | refine w1 rfl rfl ?_ | refine w2 rfl ?_ | refine w3 rfl rfl ?_ | refine w4 ?_ | refine w5 ?_ | refine w6 ?_ | refine w7 ?_ | refine w8 rfl ?_ | refine w9 rfl ?_ | refine wa ?_ | refine wd ?_ | refine we ?_ | refine wb ?_ | refine wc ?_ | refine wf ?_ | refine wg ?_ | refine wh ?_ | refine wi rfl ?_ | refine wj ?_ | refine wk ?_ | refine wl ?_ | refine wm ?_ | refine wn ?_)
      exact rt1 rfl rfl (.refl _) (AHeap.sub_refl _) (fin _ (indexAny_has _))
  · refine indexAny_c h8 (fun r hr => ?_)
    repeat (first | refine w1 rfl rfl ?_ | refine w2 rfl ?_ | refine w3 rfl rfl ?_ | refine w4 ?_ | refine w5 ?_ | refine w6 ?_ | refine w7 ?_ | refine w8 rfl ?_ | refine w9 rfl ?_ | refine wa ?_ | refine wd ?_ | refine we ?_ | refine wb ?_ | refine wc ?_ | refine wf ?_ | refine wg ?_ | refine wh ?_ | refine wi rfl ?_ | refine wj ?_ | refine wk ?_ | refine wl ?_ | refine wm ?_ | refine wn ?_)
    exact rt1 rfl rfl (.refl _) (AHeap.sub_refl _) (fin _ hr)
end Abs
end Go.Proofs.Ytbldnaflffmddaa

set_option linter.unusedVariables false
namespace Go.Proofs.Ytbldnaflffmddaa
namespace Abs
open Go.Sort

/-! ### slices.Sort of a row of strings -/
end Abs
end Go.Proofs.Ytbldnaflffmddaa
