import Derived.Test.YtmokoofibnoojaaP0
import Derived.Test.YtmokoofibnoojaaA12
import Derived.Lib.IndexAny
set_option linter.unusedVariables false
namespace Go.Proofs.Ytmokoofibnoojaa
namespace Abs
open Go.RowKit
set_option maxRecDepth 10000

/-! ### runes -/
theorem get_bang (s : ByteArray) (i : Nat) (h : i < s.size) : s.get! i = s.data.toList[i]'(by rw [Array.length_toList]; exact h) := by
  simp only [ByteArray.get!, Array.getElem_toList]
  rw [getElem!_pos s.data i h]
/-- What a position of a string gives: a byte below 128, or something beyond, out of bytes that are all beyond. -/
theorem decode_cases (s : ByteArray) (p : Nat) (hp : p < s.size) :
    ((Utf8.decode s p).1 = (s.get! p).toNat ∧ (s.get! p).toNat < 128 ∧ (Utf8.decode s p).2 = 1) ∨
    (128 ≤ (Utf8.decode s p).1 ∧ (Utf8.decode s p).1 ≤ 1114111 ∧ 1 ≤ (Utf8.decode s p).2 ∧ ∀ k, k < (Utf8.decode s p).2 → p + k < s.size ∧ 128 ≤ (s.get! (p + k)).toNat) := by
  unfold Utf8.decode
  simp only [Nat.add_zero]
  by_cases h0 : (s.get! p).toNat < 128
  · rw [if_pos h0]; exact .inl ⟨rfl, h0, rfl⟩
  · rw [if_neg h0]
    refine .inr ?_
    have one : ∀ k, k < 1 → p + k < s.size ∧ 128 ≤ (s.get! (p + k)).toNat := fun k hk => by
      have : k = 0 := by omega
      subst this
      exact ⟨hp, by simpa using Nat.le_of_not_lt h0⟩
    have err : 128 ≤ Utf8.runeError ∧ Utf8.runeError ≤ 1114111 ∧ 1 ≤ 1 ∧ ∀ k, k < 1 → p + k < s.size ∧ 128 ≤ (s.get! (p + k)).toNat := ⟨by decide, by decide, Nat.le_refl _, one⟩
    split
    · rename_i hc
      simp only [Bool.and_eq_true, decide_eq_true_eq, beq_iff_eq] at hc
      obtain ⟨hc0, hc1, hc2⟩ := hc
      split
      · refine ⟨by assumption, by omega, Nat.le_of_ble_eq_true rfl, fun k hk => ?_⟩
        rcases Nat.lt_or_ge k 1 with h | h
        · exact one k h
        · have : k = 1 := by omega
          subst this
          exact ⟨hc1, by omega⟩
      · exact err
    · split
      · rename_i hc
        simp only [Bool.and_eq_true, decide_eq_true_eq, beq_iff_eq] at hc
        obtain ⟨⟨hc0, hc1, hc2⟩, hc3, hc4⟩ := hc
        split
        · rename_i hv
          simp only [Bool.and_eq_true, decide_eq_true_eq] at hv
          refine ⟨by omega, by omega, Nat.le_of_ble_eq_true rfl, fun k hk => ?_⟩
          rcases Nat.lt_or_ge k 1 with h | h
          · exact one k h
          · have : k = 1 ∨ k = 2 := by omega
            rcases this with rfl | rfl
            · exact ⟨hc1, by omega⟩
            · exact ⟨hc3, by omega⟩
        · exact err
      · split
        · rename_i hc
          simp only [Bool.and_eq_true, decide_eq_true_eq, beq_iff_eq] at hc
          obtain ⟨⟨⟨hc0, hc1, hc2⟩, hc3, hc4⟩, hc5, hc6⟩ := hc
          split
          · rename_i hv
            simp only [Bool.and_eq_true, decide_eq_true_eq, Utf8.valid, Bool.or_eq_true] at hv
            refine ⟨by omega, by omega, Nat.le_of_ble_eq_true rfl, fun k hk => ?_⟩
            rcases Nat.lt_or_ge k 1 with h | h
            · exact one k h
            · have : k = 1 ∨ k = 2 ∨ k = 3 := by omega
              rcases this with rfl | rfl | rfl
              · exact ⟨hc1, by omega⟩
              · exact ⟨hc3, by omega⟩
              · exact ⟨hc5, by omega⟩
          · exact err
        · exact err

theorem u8_big (n : Nat) (h : n < 256) : (UInt8.ofNat n).toNat = n := by simp; omega
/-- A rune beyond the bytes, as bytes: two or more, the last one beyond. -/
theorem encode_big (c : Nat) (h : 128 ≤ c) (hc : c ≤ 1114111) : 2 ≤ (Utf8.encode c).size ∧ (Utf8.encode c).size ≤ 4 ∧ ((Utf8.encode c).size = 2 → ∃ x y : UInt8, Utf8.encode c = ⟨#[x, y]⟩ ∧ 128 ≤ y.toNat) := by
  unfold Utf8.encode
  have key : ∀ d : Nat, 128 ≤ d → d ≤ 1114111 → ∀ r : ByteArray, (r = if d < 0x80 then ⟨#[UInt8.ofNat d]⟩ else if d < 0x800 then ⟨#[UInt8.ofNat (0xC0 + d / 64), UInt8.ofNat (0x80 + d % 64)]⟩
      else if d < 0x10000 then ⟨#[UInt8.ofNat (0xE0 + d / 4096), UInt8.ofNat (0x80 + d / 64 % 64), UInt8.ofNat (0x80 + d % 64)]⟩
      else ⟨#[UInt8.ofNat (0xF0 + d / 262144), UInt8.ofNat (0x80 + d / 4096 % 64), UInt8.ofNat (0x80 + d / 64 % 64), UInt8.ofNat (0x80 + d % 64)]⟩) → 2 ≤ r.size ∧ r.size ≤ 4 ∧ (r.size = 2 → ∃ x y : UInt8, r = ⟨#[x, y]⟩ ∧ 128 ≤ y.toNat) := by
    intro d h1 h2 r hr
    rw [if_neg (by omega)] at hr
    split at hr
    · subst hr
      exact ⟨Nat.le_of_ble_eq_true rfl, Nat.le_of_ble_eq_true rfl, fun _ => ⟨_, _, rfl, by rw [u8_big _ (by omega)]; omega⟩⟩
    · split at hr
      · subst hr
        exact ⟨Nat.le_of_ble_eq_true rfl, Nat.le_of_ble_eq_true rfl, fun e => by cases e⟩
      · subst hr
        exact ⟨Nat.le_of_ble_eq_true rfl, Nat.le_of_ble_eq_true rfl, fun e => by cases e⟩
  refine key (if Utf8.valid (c : Int) = true then (c : Int).toNat else Utf8.runeError) ?_ ?_ _ rfl
  · split
    · omega
    · decide
  · split
    · omega
    · decide

section
variable {P : Program} {tt : TT} {n : Nat} {ops : Array Oper} {rest : List Oper} {F : Fr} {H : AHeap} {dst : Option Tmp} {ty : TypeId} {pos : String} {af : Array Edge} {K : APost}
theorem s_convrune (tk : TTok tt P) {src d : TypeId} {x : Operand} {j : IntKind} {p : Int} {u : Unit} (hd : dstOk n dst = true) (hx : opd F x = some (.sc (.int j p))) (hs : find tt.ints src = some j) (hdd : find tt.strs d = some u)
    (hK : AOps P n ops rest (F.put dst (.sc (.string (Utf8.encode p)))) H K) : AOps P n ops (⟨dst, .convert src d x, ty, pos, af, none⟩ :: rest) F H K :=
  AOps_cons (op_of_pures (v := .sc (.string (Utf8.encode p))) (fun g a w hf => by
    have e1 := (hf.opd hx).eq_sc
    exact ⟨_, fun w' => by simp [execOp, convert, e1, run_underlying (tk.ints hs), run_underlying (tk.strs hdd), Conv.intToString], .sc trivial⟩) hd hK)
end
theorem acalls_below {P : Program} {f : FuncId} {vals : List Value} {r : Value} {H : AHeap} {K : AVal → AHeap → Prop} (hr : plainB r = true) (h : ∀ w, Calls P f vals.toArray w fun e w' => e = .returned r ∧ Below w.heap.size w w') (hK : K (.sc r) H) :
    ACalls P f (vals.map .sc) H K := fun g w cargs hi hl hv => by
  have : cargs = vals.toArray := by
    apply Array.ext
    · simpa using hl.symm
    · intro j h1 h2
      have := hv j (by simpa using h2) h1
      simp only [List.getElem_map] at this
      simpa using this.eq_sc
  subst this
  refine (h w).mono fun e w' ⟨he, hb⟩ => ?_
  have hext : Ext g w g w' := ⟨rfl, hb.os, hb.tape, hb.output, hb.size, fun k hk => hb.block k (by have := hi.base_le; omega), fun _ => Nat.le_refl _, fun k o ho => ?_, fun k hk => ?_, rfl, fun k hk => hb.block k ?_⟩
  · refine ⟨r, g, .sc r, H, he, hext, ⟨by have := hi.base_le; have := hb.size; omega, fun k hk => hi.fresh k (by have := hb.size; omega), fun k p hp => ?_⟩, .sc (plain_of_B hr), hK⟩
    exact ⟨(hi.obj k p hp).1, (hi.obj k p hp).2.at hext (hb.block k (hi.lt hp))⟩
  · rcases Nat.lt_or_ge k w.heap.size with hk | hk
    · unfold World.cell?
      simp only [hb.block k hk]
    · have := (hi.fresh k hk).1
      omega
  · unfold World.shape?
    simp only [hb.block k hk]
  · rcases Nat.lt_or_ge k w.heap.size with h' | h'
    · exact h'
    · exact absurd hk (hi.fresh k h').2

theorem validRune_c {r : Int} {H : AHeap} {K : AVal → AHeap → Prop} (hK : ∀ b, K (.b b) H) : ACalls Try.prog 140 [.sc (.int .i32 r)] H K :=
  acalls_same (vals := [.int .i32 r]) rfl (fun w => Try.utf8_ValidRune r w) (hK _)
theorem shouldUse_c {n : Int} {H : AHeap} {K : AVal → AHeap → Prop} (hK : K (.b (decide (8 < n))) H) : ACalls Try.prog 121 [.i n] H K :=
  acalls_same (vals := [.int .i64 n]) rfl (fun w => Try.strings_shouldUseASCIISet n w) hK

def slz : ByteArray := ⟨#[47, 0]⟩
end Abs
end Go.Proofs.Ytmokoofibnoojaa
