/-
  No cell of these rows narrows 'for every input' (looked for: loops, veiled, ifaces, maps, wideKeys, modest, calm, conditions, laid).
  DERIVED. THE GIVEN ROWS OF THIS SEAT. 6 by the template 'for every input the law returns true; each argument reads behind the call as it read before'; 0 by the template 'total and deterministic' (their statements: YtbldnaflffmddaaTotals.lean).
  GIVEN WITH THE SEED: the statements are not yours to turn. If you find one false, say at which input.
  Laid BY PROGRAM, IN A SANDBOX (cutbox-rows.mjs): the forced cells as the released guide's own fill.sh prints them over the translation 384a77933e42f1e9… (all of the seat's roots in one cut). By AI agents, Wed Nov 11 2026. No macro, syntax, notation, axiom, sorry.
-/
import Derived.Test.YtbldnaflffmddaaChecked
import GoSem.Claim
import GoSem.ClaimJoined
import GoSem.ClaimMapViews
import Derived.JoinedTies
import Derived.KernelRfl
namespace Go.Proofs.Ytbldnaflffmddaa
/- THE CELL 'sum', in the pinned program and in every row, IS THE sha256 OF THE DUMP (.gsa) THAT YtbldnaflffmddaaProg.lean LOADS. Nothing in Lean hashes anything: it is a label: what it is worth is what the hold of that sum in a sandbox is worth. -/
noncomputable def Try.pinned : Pinned := { name := "ytbldnaflffmddaa", sum := "384a77933e42f1e95686de94bf6a66d62353c42cf144270ee728a0e3308aeb39", checked := Try.checked }
namespace Rows
def none {H : Type} : Left H := { results := [], args := [] }

/-- 'gaolerlaw20.WalkDown': WHATEVER THE INPUT: true; the input reads as it did. -/
def walkDownSpec : ChangeSpec := { name := "walkDown", fn := fun _ => fun
  | [d1, d2, d3, d4] => { results := [.lit (.bool true)], args := [d1, d2, d3, d4] }
  | _ => none }
def walkDownRow : OpenClaim := { program := "ytbldnaflffmddaa", sum := "384a77933e42f1e95686de94bf6a66d62353c42cf144270ee728a0e3308aeb39", func := "gaoler/gaolerlaw20.WalkDown", spec := "walkDown", unfollowed := true, recurses := true, apart := false }
def WalkDownSaid : Prop := walkDownRow.holds Try.pinned (OpenSpec.ofChange walkDownSpec)

/-- ITS FALSE NEIGHBOUR: 'it returns false'. Refute it at one input. -/
def walkDownWrong : ChangeSpec := { name := "walkDown", fn := fun _ => fun
  | [d1, d2, d3, d4] => { results := [.lit (.bool false)], args := [d1, d2, d3, d4] }
  | _ => none }
def WalkDownWrongFalsely : Prop := walkDownRow.holds Try.pinned (OpenSpec.ofChange walkDownWrong)

/-- 'gaolerlaw20.WalkOrder': WHATEVER THE INPUT: true; the input reads as it did. -/
def walkOrderSpec : ChangeSpec := { name := "walkOrder", fn := fun _ => fun
  | [d1, d2] => { results := [.lit (.bool true)], args := [d1, d2] }
  | _ => none }
def walkOrderRow : OpenClaim := { program := "ytbldnaflffmddaa", sum := "384a77933e42f1e95686de94bf6a66d62353c42cf144270ee728a0e3308aeb39", func := "gaoler/gaolerlaw20.WalkOrder", spec := "walkOrder", unfollowed := true, recurses := true, apart := false }
def WalkOrderSaid : Prop := walkOrderRow.holds Try.pinned (OpenSpec.ofChange walkOrderSpec)

/-- ITS FALSE NEIGHBOUR: 'it returns false'. Refute it at one input. -/
def walkOrderWrong : ChangeSpec := { name := "walkOrder", fn := fun _ => fun
  | [d1, d2] => { results := [.lit (.bool false)], args := [d1, d2] }
  | _ => none }
def WalkOrderWrongFalsely : Prop := walkOrderRow.holds Try.pinned (OpenSpec.ofChange walkOrderWrong)

/-- 'gaolerlaw20.WalkPlays': WHATEVER THE INPUT: true; the input reads as it did. -/
def walkPlaysSpec : ChangeSpec := { name := "walkPlays", fn := fun _ => fun
  | [d1, d2, d3, d4] => { results := [.lit (.bool true)], args := [d1, d2, d3, d4] }
  | _ => none }
def walkPlaysRow : OpenClaim := { program := "ytbldnaflffmddaa", sum := "384a77933e42f1e95686de94bf6a66d62353c42cf144270ee728a0e3308aeb39", func := "gaoler/gaolerlaw20.WalkPlays", spec := "walkPlays", unfollowed := true, recurses := true, apart := false }
def WalkPlaysSaid : Prop := walkPlaysRow.holds Try.pinned (OpenSpec.ofChange walkPlaysSpec)

/-- ITS FALSE NEIGHBOUR: 'it returns false'. Refute it at one input. -/
def walkPlaysWrong : ChangeSpec := { name := "walkPlays", fn := fun _ => fun
  | [d1, d2, d3, d4] => { results := [.lit (.bool false)], args := [d1, d2, d3, d4] }
  | _ => none }
def WalkPlaysWrongFalsely : Prop := walkPlaysRow.holds Try.pinned (OpenSpec.ofChange walkPlaysWrong)

/-- 'gaolerlaw20.WalkOnce': WHATEVER THE INPUT: true; the input reads as it did. -/
def walkOnceSpec : ChangeSpec := { name := "walkOnce", fn := fun _ => fun
  | [d1, d2] => { results := [.lit (.bool true)], args := [d1, d2] }
  | _ => none }
def walkOnceRow : OpenClaim := { program := "ytbldnaflffmddaa", sum := "384a77933e42f1e95686de94bf6a66d62353c42cf144270ee728a0e3308aeb39", func := "gaoler/gaolerlaw20.WalkOnce", spec := "walkOnce", unfollowed := true, recurses := true, apart := false }
def WalkOnceSaid : Prop := walkOnceRow.holds Try.pinned (OpenSpec.ofChange walkOnceSpec)

/-- ITS FALSE NEIGHBOUR: 'it returns false'. Refute it at one input. -/
def walkOnceWrong : ChangeSpec := { name := "walkOnce", fn := fun _ => fun
  | [d1, d2] => { results := [.lit (.bool false)], args := [d1, d2] }
  | _ => none }
def WalkOnceWrongFalsely : Prop := walkOnceRow.holds Try.pinned (OpenSpec.ofChange walkOnceWrong)

/-- 'gaolerlaw20.WalkReports': WHATEVER THE INPUT: true; the input reads as it did. -/
def walkReportsSpec : ChangeSpec := { name := "walkReports", fn := fun _ => fun
  | [d1, d2] => { results := [.lit (.bool true)], args := [d1, d2] }
  | _ => none }
def walkReportsRow : OpenClaim := { program := "ytbldnaflffmddaa", sum := "384a77933e42f1e95686de94bf6a66d62353c42cf144270ee728a0e3308aeb39", func := "gaoler/gaolerlaw20.WalkReports", spec := "walkReports", unfollowed := true, recurses := true, apart := false }
def WalkReportsSaid : Prop := walkReportsRow.holds Try.pinned (OpenSpec.ofChange walkReportsSpec)

/-- ITS FALSE NEIGHBOUR: 'it returns false'. Refute it at one input. -/
def walkReportsWrong : ChangeSpec := { name := "walkReports", fn := fun _ => fun
  | [d1, d2] => { results := [.lit (.bool false)], args := [d1, d2] }
  | _ => none }
def WalkReportsWrongFalsely : Prop := walkReportsRow.holds Try.pinned (OpenSpec.ofChange walkReportsWrong)

/-- 'gaolerlaw09.TableApart': WHATEVER THE INPUT: true; the input reads as it did. -/
def tableApartSpec : ChangeSpec := { name := "tableApart", fn := fun _ => fun
  | [d1, d2, d3] => { results := [.lit (.bool true)], args := [d1, d2, d3] }
  | _ => none }
def tableApartRow : OpenClaim := { program := "ytbldnaflffmddaa", sum := "384a77933e42f1e95686de94bf6a66d62353c42cf144270ee728a0e3308aeb39", func := "gaoler/gaolerlaw09.TableApart", spec := "tableApart", inPlace := ["internal/bytealg.IndexByteString", "internal/bytealg.IndexString"], unfollowed := true, recurses := true, named := ["internal/bytealg.MaxLen"], apart := false }
def TableApartSaid : Prop := tableApartRow.holds Try.pinned (OpenSpec.ofChange tableApartSpec)

/-- ITS FALSE NEIGHBOUR: 'it returns false'. Refute it at one input. -/
def tableApartWrong : ChangeSpec := { name := "tableApart", fn := fun _ => fun
  | [d1, d2, d3] => { results := [.lit (.bool false)], args := [d1, d2, d3] }
  | _ => none }
def TableApartWrongFalsely : Prop := tableApartRow.holds Try.pinned (OpenSpec.ofChange tableApartWrong)

/- THE SECOND FORM. 'bulk': how many values and letters a reading holds, each counted each time it is reached (what is shared counts as often as it is met; a slice's spare places count too). A statement '..UptoSaid' is the law's where the arguments, and the package variables that the reading takes, are together of bulk at most 1048576: NARROWER than '..Said'. Prove '..Said' where nothing that the law and all that it calls make is longer than what came in: it says more and counts as full. Else prove '..UptoSaid'. A law counts once. -/
mutual
def uptoBulk {H : Type} : DataW H → Nat
  | .lit (.string bytes) => bytes.length + 1
  | .lit _ => 1
  | .nil => 1
  | .ptr d => uptoBulk d + 1
  | .slice elems spare => uptoBulkAll elems + uptoBulkAll spare + 1
  | .agg parts => uptoBulkAll parts + 1
  | .iface _ d => uptoBulk d + 1
  | .map entries => uptoBulkEntries entries + 1
  | .held _ => 1
def uptoBulkAll {H : Type} : List (DataW H) → Nat
  | [] => 0
  | d :: r => uptoBulk d + uptoBulkAll r
def uptoBulkEntries {H : Type} : List (Lit × DataW H) → Nat
  | [] => 0
  | x :: r => uptoBulkEntry x + uptoBulkEntries r
def uptoBulkEntry {H : Type} : Lit × DataW H → Nat
  | (.string bytes, d) => bytes.length + uptoBulk d + 1
  | (_, d) => uptoBulk d + 1
 end
def uptoSmall : (H : Type) → List (DataW H) → Bool := fun _ ds => decide (uptoBulkAll ds ≤ 1048576)
def OpenSpec.upto (s : _root_.Go.ChangeSpec) : _root_.Go.OpenSpec := { _root_.Go.OpenSpec.ofChange s with cond := some uptoSmall }

/-- 'gaolerlaw20.WalkDown', WHERE WHAT IT READS IS OF BULK AT MOST 1048576: true; the input reads as it did. -/
def walkDownUptoRow : OpenClaim := { program := "ytbldnaflffmddaa", sum := "384a77933e42f1e95686de94bf6a66d62353c42cf144270ee728a0e3308aeb39", func := "gaoler/gaolerlaw20.WalkDown", spec := "walkDown", unfollowed := true, recurses := true, apart := false, narrowed := true }
def WalkDownUptoSaid : Prop := walkDownUptoRow.holds Try.pinned (OpenSpec.upto walkDownSpec)

/-- 'gaolerlaw20.WalkOrder', WHERE WHAT IT READS IS OF BULK AT MOST 1048576: true; the input reads as it did. -/
def walkOrderUptoRow : OpenClaim := { program := "ytbldnaflffmddaa", sum := "384a77933e42f1e95686de94bf6a66d62353c42cf144270ee728a0e3308aeb39", func := "gaoler/gaolerlaw20.WalkOrder", spec := "walkOrder", unfollowed := true, recurses := true, apart := false, narrowed := true }
def WalkOrderUptoSaid : Prop := walkOrderUptoRow.holds Try.pinned (OpenSpec.upto walkOrderSpec)

/-- 'gaolerlaw20.WalkPlays', WHERE WHAT IT READS IS OF BULK AT MOST 1048576: true; the input reads as it did. -/
def walkPlaysUptoRow : OpenClaim := { program := "ytbldnaflffmddaa", sum := "384a77933e42f1e95686de94bf6a66d62353c42cf144270ee728a0e3308aeb39", func := "gaoler/gaolerlaw20.WalkPlays", spec := "walkPlays", unfollowed := true, recurses := true, apart := false, narrowed := true }
def WalkPlaysUptoSaid : Prop := walkPlaysUptoRow.holds Try.pinned (OpenSpec.upto walkPlaysSpec)

/-- 'gaolerlaw20.WalkOnce', WHERE WHAT IT READS IS OF BULK AT MOST 1048576: true; the input reads as it did. -/
def walkOnceUptoRow : OpenClaim := { program := "ytbldnaflffmddaa", sum := "384a77933e42f1e95686de94bf6a66d62353c42cf144270ee728a0e3308aeb39", func := "gaoler/gaolerlaw20.WalkOnce", spec := "walkOnce", unfollowed := true, recurses := true, apart := false, narrowed := true }
def WalkOnceUptoSaid : Prop := walkOnceUptoRow.holds Try.pinned (OpenSpec.upto walkOnceSpec)

/-- 'gaolerlaw20.WalkReports', WHERE WHAT IT READS IS OF BULK AT MOST 1048576: true; the input reads as it did. -/
def walkReportsUptoRow : OpenClaim := { program := "ytbldnaflffmddaa", sum := "384a77933e42f1e95686de94bf6a66d62353c42cf144270ee728a0e3308aeb39", func := "gaoler/gaolerlaw20.WalkReports", spec := "walkReports", unfollowed := true, recurses := true, apart := false, narrowed := true }
def WalkReportsUptoSaid : Prop := walkReportsUptoRow.holds Try.pinned (OpenSpec.upto walkReportsSpec)

/-- 'gaolerlaw09.TableApart', WHERE WHAT IT READS IS OF BULK AT MOST 1048576: true; the input reads as it did. -/
def tableApartUptoRow : OpenClaim := { program := "ytbldnaflffmddaa", sum := "384a77933e42f1e95686de94bf6a66d62353c42cf144270ee728a0e3308aeb39", func := "gaoler/gaolerlaw09.TableApart", spec := "tableApart", inPlace := ["internal/bytealg.IndexByteString", "internal/bytealg.IndexString"], unfollowed := true, recurses := true, named := ["internal/bytealg.MaxLen"], apart := false, narrowed := true }
def TableApartUptoSaid : Prop := tableApartUptoRow.holds Try.pinned (OpenSpec.upto tableApartSpec)

end Rows
end Go.Proofs.Ytbldnaflffmddaa
