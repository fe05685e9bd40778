import Derived.Test.YtpifnlodilcgkaaIE
import Derived.Test.YtpifnlodilcgkaaS1
set_option linter.unusedVariables false
namespace Go.Proofs.Ytpifnlodilcgkaa
namespace Abs
set_option maxRecDepth 10000
attribute [local irreducible] AOps AW ACalls thenQ inBlk noGoto

/-! ### BuildRoom: the plain law -/
theorem same_at {T U : Tab} (h : ∀ i, U.at i = T.at i) : U.same T = true := by
  unfold Tab.same
  suffices hk : ∀ k, U.sameTo T k = true from hk 24
  intro k
  induction k with
  | zero => rfl
  | succ k ih =>
    have e : U.nd k = T.nd k := h ((k : Int) + 1)
    simp only [Tab.sameTo, ih, e, same_refl, Bool.and_self]
theorem free_bt1 {T : Tab} {m : Int} (h : BT T m) (hm : m < T.room) : T.free = some m.toNat := by
  have hp := h.pos
  refine free_some (by omega) (fun j hj => (h.has _).2 ⟨by omega, by omega⟩) ?_
  cases hh : T.has ((m.toNat : Int) + 1) with
  | false => rfl
  | true => have := (h.has _).1 hh; omega
end Abs
end Go.Proofs.Ytpifnlodilcgkaa
