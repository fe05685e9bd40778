import Derived.Test.YtpifnlodilcgkaaHH
set_option linter.unusedVariables false
namespace Go.Proofs.Ytpifnlodilcgkaa
namespace Abs
/-! ### ref16: what is read, what is written, plain part -/
theorem readB_eq {d : ByteArray} {off n : Int} (h0 : 0 ≤ off) (h1 : 0 ≤ n) : readB d off n = ofL (((byL d).drop off.toNat).take n.toNat) := by
  unfold readB
  have e1 : (byL d).drop (min off (d.size : Int)).toNat = (byL d).drop off.toNat := by
    by_cases h : off ≤ (d.size : Int)
    · rw [show min off (d.size : Int) = off by omega]
    · rw [List.drop_eq_nil_of_le (by rw [byL_len]; omega), List.drop_eq_nil_of_le (by rw [byL_len]; omega)]
  rw [e1]
  congr 1
  by_cases h : n ≤ ((((byL d).drop off.toNat).length : Nat) : Int)
  · rw [show min n ((((byL d).drop off.toNat).length : Nat) : Int) = n by omega]
  · rw [List.take_of_length_le (by omega), List.take_of_length_le (by omega)]
def padL (l : List UInt8) (off : Nat) : List UInt8 := l ++ List.replicate (off - l.length) 0
theorem pad_len (l : List UInt8) (off : Nat) : (padL l off).length = max l.length off := by
  unfold padL
  rw [List.length_append, List.length_replicate]; omega
theorem outL_eq (d b : ByteArray) (off : Nat) : outL d b off = (padL (byL d) off).take off ++ byL b ++ (padL (byL d) off).drop (off + b.size) := by
  have e0 : cpL (List.replicate (max d.size (off + b.size)) (0 : UInt8)) 0 (byL d) = byL d ++ List.replicate (max d.size (off + b.size) - d.size) 0 := by
    unfold cpL
    rw [List.take_zero, List.nil_append, List.drop_replicate, byL_len, Nat.zero_add]
  unfold outL
  rw [e0]
  unfold cpL padL
  have h1 : (byL d ++ List.replicate (max d.size (off + b.size) - d.size) (0 : UInt8)).take off = (byL d ++ List.replicate (off - (byL d).length) (0 : UInt8)).take off := by
    rw [List.take_append, List.take_append, List.take_replicate, List.take_replicate, byL_len]
    congr 2
    omega
  have h2 : (byL d ++ List.replicate (max d.size (off + b.size) - d.size) (0 : UInt8)).drop (off + b.size) = (byL d ++ List.replicate (off - (byL d).length) (0 : UInt8)).drop (off + b.size) := by
    by_cases h : off + b.size ≤ d.size
    · rw [show max d.size (off + b.size) - d.size = 0 by omega, byL_len, show off - d.size = 0 by omega]
    · rw [List.drop_eq_nil_of_le (by rw [List.length_append, List.length_replicate, byL_len]; omega), List.drop_eq_nil_of_le (by rw [List.length_append, List.length_replicate, byL_len]; omega)]
  rw [h1, byL_len b, h2]
end Abs
end Go.Proofs.Ytpifnlodilcgkaa

set_option linter.unusedVariables false
namespace Go.Proofs.Ytpifnlodilcgkaa
namespace Abs
set_option linter.unusedSimpArgs false
set_option maxRecDepth 10000
set_option maxHeartbeats 2000000
attribute [local irreducible] AOps AW AP ACalls thenQ inBlk noGoto

/-! ### package gaolerref16: ReadAt -/
end Abs
end Go.Proofs.Ytpifnlodilcgkaa
