import Derived.Test.YtbldnaflffmddaaJH
set_option linter.unusedVariables false
namespace Go.Proofs.Ytbldnaflffmddaa
namespace Abs

/-! ### package walk: what a command tells -/
structure Dg where
  path : ByteArray
  err : Int
structure RpSt (X Y : AHeap) (b : Nat) (ds ls : List (List AVal)) (o1 o2 : Own) : Prop where
  st : Own2 X Y o1 o2
  cell : Y b = some (.cells [.sl ds o1, .sl ls o2])
  ne1 : tokB o1 ≠ some b
  ne2 : tokB o2 ≠ some b
  new : X b = none
theorem RpSt.first {X : AHeap} {b : Nat} (h : X b = none) : RpSt X (X.put b (.cells [.sl [] .full, .sl [] .full])) b [] [] .full .full :=
  ⟨⟨trivial, trivial, (by intro b e; cases e), fun x hx => ⟨put_ne (fun e => hx (by rw [e]; exact h)), (by intro e; cases e), (by intro e; cases e)⟩⟩, put_same _ _ _, (by intro e; cases e), (by intro e; cases e), h⟩
end Abs
end Go.Proofs.Ytbldnaflffmddaa

set_option linter.unusedVariables false
namespace Go.Proofs.Ytbldnaflffmddaa
namespace Abs
set_option linter.unusedSimpArgs false
set_option maxRecDepth 10000
set_option maxHeartbeats 2000000
attribute [local irreducible] AOps AW AP ACalls thenQ inBlk noGoto

end Abs
end Go.Proofs.Ytbldnaflffmddaa
