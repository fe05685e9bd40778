import Derived.Test.YtbldnaflffmddaaX1
import Derived.Test.YtbldnaflffmddaaB0
import Derived.Lib.FieldsP
set_option linter.unusedVariables false
namespace Go.Proofs.Ytbldnaflffmddaa
namespace Abs
set_option linter.unusedSimpArgs false
set_option maxRecDepth 10000
set_option maxHeartbeats 2000000
attribute [local irreducible] AOps AW AP ACalls thenQ inBlk noGoto

/-! ### package paths: names of a path -/
def ofL (l : List UInt8) : ByteArray := ⟨l.toArray⟩
def byL (s : ByteArray) : List UInt8 := s.data.toList
theorem ofL_byL (s : ByteArray) : ofL (byL s) = s := by cases s; simp [ofL, byL]
theorem byL_ofL (l : List UInt8) : byL (ofL l) = l := by simp [ofL, byL]
theorem byL_len (s : ByteArray) : (byL s).length = s.size := by rw [byL, Array.length_toList]; rfl
theorem ofL_inj {a b : List UInt8} : ofL a = ofL b ↔ a = b := ⟨fun h => by rw [← byL_ofL a, h, byL_ofL], fun h => by rw [h]⟩
theorem byL_extract (s : ByteArray) (i j : Nat) : byL (s.extract i j) = ((byL s).take j).drop i := by
  rw [byL, ByteArray.data_extract, Array.toList_extract, List.extract_eq_take_drop, List.drop_take]; rfl
theorem extract_eq (s : ByteArray) (i j : Nat) : s.extract i j = ofL (((byL s).take j).drop i) := by rw [← byL_extract, ofL_byL]
def absOf (s : ByteArray) : Bool := decide ((byL s)[0]? = some 47)
def endOf (s : ByteArray) : Bool := decide ((byL s)[s.size - 1]? = some 47)
/-! the library's FieldsFunc, at the slash -/
end Abs
end Go.Proofs.Ytbldnaflffmddaa

set_option linter.unusedVariables false
namespace Go.Proofs.Ytbldnaflffmddaa
namespace Abs
open Go.RowKit

/-! ### package paths: Split, Join -/
section
set_option linter.unusedSimpArgs false
set_option maxRecDepth 10000
set_option maxHeartbeats 2000000
attribute [local irreducible] AOps AW AP ACalls thenQ inBlk noGoto
end
section
set_option linter.unusedSimpArgs false
set_option maxRecDepth 10000
set_option maxHeartbeats 2000000
attribute [local irreducible] AOps AW AP ACalls thenQ inBlk noGoto
end
end Abs
end Go.Proofs.Ytbldnaflffmddaa

set_option linter.unusedVariables false
namespace Go.Proofs.Ytbldnaflffmddaa
namespace Abs
set_option linter.unusedSimpArgs false
set_option maxRecDepth 10000
set_option maxHeartbeats 2000000
attribute [local irreducible] AOps AW AP ACalls thenQ inBlk noGoto
def slashS : ByteArray := ⟨#[47]⟩
theorem slashS_eq : slashS = ofL [47] := rfl
theorem last1_eq (s : ByteArray) (h : 1 ≤ s.size) : decide (s.extract (s.size - 1) s.size = slashS) = endOf s := by
  rw [extract_eq, slashS_eq]
  unfold endOf
  refine decide_eq_decide.2 ?_
  rw [ofL_inj]
  have hl := byL_len s
  rw [List.take_of_length_le (by omega)]
  have h1 : s.size - 1 < (byL s).length := by omega
  rw [List.drop_eq_getElem_cons h1, List.getElem?_eq_getElem h1, List.drop_eq_nil_of_le (by omega)]
  simp
theorem empty_abs {s : ByteArray} (h : s.size = 0) : absOf s = false ∧ endOf s = false := by
  have hl := byL_len s
  have : byL s = [] := List.length_eq_zero_iff.1 (by omega)
  unfold absOf endOf
  rw [this]
  exact ⟨rfl, rfl⟩
theorem hasSuffix_c {s : ByteArray} (hs : s.size ≤ 4294967296) {H : AHeap} {K : AVal → AHeap → Prop} (hK : K (.b (endOf s)) H) : ACalls Try.prog 71 [.s s, .s slashS] H K := by
  refine acalls_body Try.func71 rfl rfl rfl ?_
  repeat first|(apply x1;apply r0;apply r0)|apply w4|apply w6|apply w7|apply w5
  have e1 : ((slashS.size : Nat) : Int) = 1 := rfl
  rw [e1]
  refine s_gsplit rfl rfl (fun g => ?_) (fun g => ?_)<;>first|replace g:=of_decide_eq_true g|replace g:=of_decide_eq_false g
  case refine_2 =>
    have h0 : s.size = 0 := by omega
    rw [(empty_abs h0).2] at hK
    repeat first|(apply x1;apply r0;apply r0)|apply w4|(apply w3;apply r0;apply r0)|apply wd|apply w5
    exact rt1 rfl rfl (.refl _) (AHeap.sub_refl _) hK
  repeat first|(apply x1;apply r0;apply r0)|(apply x5;apply r0)|(apply x7;apply r0;omega)
  rw [e1]
  skip
  refine s_slices tk rfl rfl rfl rfl rfl (by omega) (by omega) (by omega) ?_
  repeat first|(apply x1;apply r0;apply r0)|(apply x5;apply r0)|apply w4|apply wd|apply w5
  refine rt1 rfl rfl (.refl _) (AHeap.sub_refl _) ?_
  rw [← last1_eq s (by omega)] at hK
  rw [show ((s.size : Int) - 1).toNat = s.size - 1 by omega, Int.toNat_natCast]
  exact hK
theorem sSuffix_c {s : ByteArray} (hs : s.size ≤ 4294967296) {H : AHeap} {K : AVal → AHeap → Prop} (hK : K (.b (endOf s)) H) : ACalls Try.prog 57 [.s s, .s slashS] H K := by
  refine acalls_body Try.func57 rfl rfl rfl ?_
  repeat first|(apply x1;apply r0;apply r0)|(apply x9;apply r0)|apply w4|apply w6|apply w7|apply w5
  refine hasSuffix_c hs ?_
  repeat first|(apply x1;apply r0;apply r0)|apply w4|apply wd|apply w5
  exact rt1 rfl rfl (.refl _) (AHeap.sub_refl _) hK
attribute [local irreducible] absOf endOf
end Abs
end Go.Proofs.Ytbldnaflffmddaa

set_option linter.unusedVariables false
namespace Go.Proofs.Ytbldnaflffmddaa
namespace Abs
set_option linter.unusedSimpArgs false
set_option maxRecDepth 10000
set_option maxHeartbeats 2000000
attribute [local irreducible] AOps AW AP ACalls thenQ inBlk noGoto
attribute [local irreducible] absOf endOf

/-! ### Join; the document's chapter 07: Names, Abs, Split -/
def joinOf (d s : ByteArray) : ByteArray := if (decide (d = ⟨#[]⟩) || endOf d) = true then d ++ s else d ++ slashS ++ s
theorem join_c {d s : ByteArray} (hd : d.size ≤ 4294967296) (hs : s.size ≤ 4294967296) {H : AHeap} {K : AVal → AHeap → Prop} (hK : K (.s (joinOf d s)) H) : ACalls Try.prog 39 [.s d, .s s] H K := by
  refine acalls_body Try.func39 rfl rfl rfl ?_
  unfold joinOf at hK
  repeat first|(apply x1;apply r0;apply r0)|apply w4|apply w6|apply w7|apply w5
  refine s_gsplit rfl rfl (fun g => ?_) (fun g => ?_)<;>first|replace g:=of_decide_eq_true g|replace g:=of_decide_eq_false g
  · rw [decide_eq_true g, Bool.true_or, if_pos rfl] at hK
    repeat first|(apply x1;apply r0;apply r0)|apply w4|(apply w3;apply r0;apply r0)|apply w6|apply w7|(apply w8;apply r0)|apply w5
    refine s_cat rfl rfl rfl (by omega) ?_
    repeat first|(apply x1;apply r0;apply r0)|apply w4|apply wd|apply w5|apply we
    exact rt1 rfl rfl (.refl _) (AHeap.sub_refl _) hK
  rw [decide_eq_false g, Bool.false_or] at hK
  repeat first|(apply x1;apply r0;apply r0)|(apply x5;apply r0)|(apply x9;apply r0)
  refine sSuffix_c hd ?_
  repeat first|(apply x1;apply r0;apply r0)|apply w4|apply w5
  refine aw_cond rfl (fun e => ?_) (fun e => ?_)
  · rw [e, if_pos rfl] at hK
    repeat first|(apply x1;apply r0;apply r0)|apply w6|apply w7
    refine s_cat rfl rfl rfl (by omega) ?_
    repeat first|(apply x1;apply r0;apply r0)|apply w4|apply wd|apply w5|apply we
    exact rt1 rfl rfl (.refl _) (AHeap.sub_refl _) hK
  · rw [e, if_neg (by decide)] at hK
    repeat first|(apply x1;apply r0;apply r0)|apply w6|apply w7|apply wa|apply w5
    have e1 : (⟨#[47]⟩ : ByteArray).size = 1 := rfl
    refine s_cat rfl rfl rfl (by rw [e1]; omega) ?_
    repeat (apply x1;apply r0;apply r0)
    refine s_cat rfl rfl rfl (by rw [ByteArray.size_append, e1]; omega) ?_
    repeat first|(apply x1;apply r0;apply r0)|apply w4|apply wd|apply w5
    exact rt1 rfl rfl (.refl _) (AHeap.sub_refl _) hK
end Abs
end Go.Proofs.Ytbldnaflffmddaa
