/-
  No cell of these rows narrows 'for every input' (looked for: loops, veiled, ifaces, maps, wideKeys, modest, calm, conditions, laid).
  DERIVED. THE GIVEN ROWS OF THIS SEAT. 11 by the template 'for every input the law returns true; each argument reads behind the call as it read before'; 0 by the template 'total and deterministic' (their statements: YtmokoofibnoojaaTotals.lean).
  GIVEN WITH THE SEED: the statements are not yours to turn. If you find one false, say at which input.
  Laid BY PROGRAM, IN A SANDBOX (cutbox-rows.mjs): the forced cells as the released guide's own fill.sh prints them over the translation d8bfea3295ef340b… (all of the seat's roots in one cut). By AI agents, Wed Nov 11 2026. No macro, syntax, notation, axiom, sorry.
-/
import Derived.Test.YtmokoofibnoojaaChecked
import GoSem.Claim
import GoSem.ClaimJoined
import GoSem.ClaimMapViews
import Derived.JoinedTies
import Derived.KernelRfl
namespace Go.Proofs.Ytmokoofibnoojaa
/- THE CELL 'sum', in the pinned program and in every row, IS THE sha256 OF THE DUMP (.gsa) THAT YtmokoofibnoojaaProg.lean LOADS. Nothing in Lean hashes anything: it is a label: what it is worth is what the hold of that sum in a sandbox is worth. -/
noncomputable def Try.pinned : Pinned := { name := "ytmokoofibnoojaa", sum := "d8bfea3295ef340b811c7c158a4c80313dff0bfd4772f16e145fd6d932c8130c", checked := Try.checked }
namespace Rows
def none {H : Type} : Left H := { results := [], args := [] }

/-- 'gaolerlaw11.ResolveFinds': WHATEVER THE INPUT: true; the input reads as it did. -/
def resolveFindsSpec : ChangeSpec := { name := "resolveFinds", fn := fun _ => fun
  | [d1, d2, d3, d4, d5] => { results := [.lit (.bool true)], args := [d1, d2, d3, d4, d5] }
  | _ => none }
def resolveFindsRow : OpenClaim := { program := "ytmokoofibnoojaa", sum := "d8bfea3295ef340b811c7c158a4c80313dff0bfd4772f16e145fd6d932c8130c", func := "gaoler/gaolerlaw11.ResolveFinds", spec := "resolveFinds", inPlace := ["internal/bytealg.IndexByteString", "internal/bytealg.IndexString"], unfollowed := true, recurses := true, named := ["internal/bytealg.MaxLen"], apart := false }
def ResolveFindsSaid : Prop := resolveFindsRow.holds Try.pinned (OpenSpec.ofChange resolveFindsSpec)

/-- ITS FALSE NEIGHBOUR: 'it returns false'. Refute it at one input. -/
def resolveFindsWrong : ChangeSpec := { name := "resolveFinds", fn := fun _ => fun
  | [d1, d2, d3, d4, d5] => { results := [.lit (.bool false)], args := [d1, d2, d3, d4, d5] }
  | _ => none }
def ResolveFindsWrongFalsely : Prop := resolveFindsRow.holds Try.pinned (OpenSpec.ofChange resolveFindsWrong)

/-- 'gaolerlaw11.ResolveCan': WHATEVER THE INPUT: true; the input reads as it did. -/
def resolveCanSpec : ChangeSpec := { name := "resolveCan", fn := fun _ => fun
  | [d1, d2, d3, d4, d5, d6] => { results := [.lit (.bool true)], args := [d1, d2, d3, d4, d5, d6] }
  | _ => none }
def resolveCanRow : OpenClaim := { program := "ytmokoofibnoojaa", sum := "d8bfea3295ef340b811c7c158a4c80313dff0bfd4772f16e145fd6d932c8130c", func := "gaoler/gaolerlaw11.ResolveCan", spec := "resolveCan", inPlace := ["internal/bytealg.IndexByteString", "internal/bytealg.IndexString"], unfollowed := true, recurses := true, named := ["internal/bytealg.MaxLen"], apart := false }
def ResolveCanSaid : Prop := resolveCanRow.holds Try.pinned (OpenSpec.ofChange resolveCanSpec)

/-- ITS FALSE NEIGHBOUR: 'it returns false'. Refute it at one input. -/
def resolveCanWrong : ChangeSpec := { name := "resolveCan", fn := fun _ => fun
  | [d1, d2, d3, d4, d5, d6] => { results := [.lit (.bool false)], args := [d1, d2, d3, d4, d5, d6] }
  | _ => none }
def ResolveCanWrongFalsely : Prop := resolveCanRow.holds Try.pinned (OpenSpec.ofChange resolveCanWrong)

/-- 'gaolerlaw11.ResolveSearch': WHATEVER THE INPUT: true; the input reads as it did. -/
def resolveSearchSpec : ChangeSpec := { name := "resolveSearch", fn := fun _ => fun
  | [d1, d2, d3, d4, d5] => { results := [.lit (.bool true)], args := [d1, d2, d3, d4, d5] }
  | _ => none }
def resolveSearchRow : OpenClaim := { program := "ytmokoofibnoojaa", sum := "d8bfea3295ef340b811c7c158a4c80313dff0bfd4772f16e145fd6d932c8130c", func := "gaoler/gaolerlaw11.ResolveSearch", spec := "resolveSearch", inPlace := ["internal/bytealg.IndexByteString", "internal/bytealg.IndexString"], unfollowed := true, recurses := true, named := ["internal/bytealg.MaxLen"], apart := false }
def ResolveSearchSaid : Prop := resolveSearchRow.holds Try.pinned (OpenSpec.ofChange resolveSearchSpec)

/-- ITS FALSE NEIGHBOUR: 'it returns false'. Refute it at one input. -/
def resolveSearchWrong : ChangeSpec := { name := "resolveSearch", fn := fun _ => fun
  | [d1, d2, d3, d4, d5] => { results := [.lit (.bool false)], args := [d1, d2, d3, d4, d5] }
  | _ => none }
def ResolveSearchWrongFalsely : Prop := resolveSearchRow.holds Try.pinned (OpenSpec.ofChange resolveSearchWrong)

/-- 'gaolerlaw11.ResolveDots': WHATEVER THE INPUT: true; the input reads as it did. -/
def resolveDotsSpec : ChangeSpec := { name := "resolveDots", fn := fun _ => fun
  | [d1, d2, d3, d4] => { results := [.lit (.bool true)], args := [d1, d2, d3, d4] }
  | _ => none }
def resolveDotsRow : OpenClaim := { program := "ytmokoofibnoojaa", sum := "d8bfea3295ef340b811c7c158a4c80313dff0bfd4772f16e145fd6d932c8130c", func := "gaoler/gaolerlaw11.ResolveDots", spec := "resolveDots", inPlace := ["internal/bytealg.IndexByteString", "internal/bytealg.IndexString"], unfollowed := true, recurses := true, named := ["internal/bytealg.MaxLen"], apart := false }
def ResolveDotsSaid : Prop := resolveDotsRow.holds Try.pinned (OpenSpec.ofChange resolveDotsSpec)

/-- ITS FALSE NEIGHBOUR: 'it returns false'. Refute it at one input. -/
def resolveDotsWrong : ChangeSpec := { name := "resolveDots", fn := fun _ => fun
  | [d1, d2, d3, d4] => { results := [.lit (.bool false)], args := [d1, d2, d3, d4] }
  | _ => none }
def ResolveDotsWrongFalsely : Prop := resolveDotsRow.holds Try.pinned (OpenSpec.ofChange resolveDotsWrong)

/-- 'gaolerlaw11.ResolveParts': WHATEVER THE INPUT: true; the input reads as it did. -/
def resolvePartsSpec : ChangeSpec := { name := "resolveParts", fn := fun _ => fun
  | [d1, d2, d3, d4, d5] => { results := [.lit (.bool true)], args := [d1, d2, d3, d4, d5] }
  | _ => none }
def resolvePartsRow : OpenClaim := { program := "ytmokoofibnoojaa", sum := "d8bfea3295ef340b811c7c158a4c80313dff0bfd4772f16e145fd6d932c8130c", func := "gaoler/gaolerlaw11.ResolveParts", spec := "resolveParts", inPlace := ["internal/bytealg.IndexByteString", "internal/bytealg.IndexString"], unfollowed := true, recurses := true, named := ["internal/bytealg.MaxLen"], apart := false }
def ResolvePartsSaid : Prop := resolvePartsRow.holds Try.pinned (OpenSpec.ofChange resolvePartsSpec)

/-- ITS FALSE NEIGHBOUR: 'it returns false'. Refute it at one input. -/
def resolvePartsWrong : ChangeSpec := { name := "resolveParts", fn := fun _ => fun
  | [d1, d2, d3, d4, d5] => { results := [.lit (.bool false)], args := [d1, d2, d3, d4, d5] }
  | _ => none }
def ResolvePartsWrongFalsely : Prop := resolvePartsRow.holds Try.pinned (OpenSpec.ofChange resolvePartsWrong)

/-- 'gaolerlaw11.ResolveRoot': WHATEVER THE INPUT: true; the input reads as it did. -/
def resolveRootSpec : ChangeSpec := { name := "resolveRoot", fn := fun _ => fun
  | [d1, d2, d3, d4, d5] => { results := [.lit (.bool true)], args := [d1, d2, d3, d4, d5] }
  | _ => none }
def resolveRootRow : OpenClaim := { program := "ytmokoofibnoojaa", sum := "d8bfea3295ef340b811c7c158a4c80313dff0bfd4772f16e145fd6d932c8130c", func := "gaoler/gaolerlaw11.ResolveRoot", spec := "resolveRoot", inPlace := ["internal/bytealg.IndexByteString", "internal/bytealg.IndexString"], unfollowed := true, recurses := true, named := ["internal/bytealg.MaxLen"], apart := false }
def ResolveRootSaid : Prop := resolveRootRow.holds Try.pinned (OpenSpec.ofChange resolveRootSpec)

/-- ITS FALSE NEIGHBOUR: 'it returns false'. Refute it at one input. -/
def resolveRootWrong : ChangeSpec := { name := "resolveRoot", fn := fun _ => fun
  | [d1, d2, d3, d4, d5] => { results := [.lit (.bool false)], args := [d1, d2, d3, d4, d5] }
  | _ => none }
def ResolveRootWrongFalsely : Prop := resolveRootRow.holds Try.pinned (OpenSpec.ofChange resolveRootWrong)

/-- 'gaolerlaw08.NodeRight': WHATEVER THE INPUT: true; the input reads as it did. -/
def nodeRightSpec : ChangeSpec := { name := "nodeRight", fn := fun _ => fun
  | [d1, d2, d3] => { results := [.lit (.bool true)], args := [d1, d2, d3] }
  | _ => none }
def nodeRightRow : OpenClaim := { program := "ytmokoofibnoojaa", sum := "d8bfea3295ef340b811c7c158a4c80313dff0bfd4772f16e145fd6d932c8130c", func := "gaoler/gaolerlaw08.NodeRight", spec := "nodeRight", inPlace := ["internal/bytealg.IndexByteString", "internal/bytealg.IndexString"], unfollowed := true, recurses := true, named := ["internal/bytealg.MaxLen"], apart := false }
def NodeRightSaid : Prop := nodeRightRow.holds Try.pinned (OpenSpec.ofChange nodeRightSpec)

/-- ITS FALSE NEIGHBOUR: 'it returns false'. Refute it at one input. -/
def nodeRightWrong : ChangeSpec := { name := "nodeRight", fn := fun _ => fun
  | [d1, d2, d3] => { results := [.lit (.bool false)], args := [d1, d2, d3] }
  | _ => none }
def NodeRightWrongFalsely : Prop := nodeRightRow.holds Try.pinned (OpenSpec.ofChange nodeRightWrong)

/-- 'gaolerlaw08.NodeChanges': WHATEVER THE INPUT: true; the input reads as it did. -/
def nodeChangesSpec : ChangeSpec := { name := "nodeChanges", fn := fun _ => fun
  | [d1, d2, d3] => { results := [.lit (.bool true)], args := [d1, d2, d3] }
  | _ => none }
def nodeChangesRow : OpenClaim := { program := "ytmokoofibnoojaa", sum := "d8bfea3295ef340b811c7c158a4c80313dff0bfd4772f16e145fd6d932c8130c", func := "gaoler/gaolerlaw08.NodeChanges", spec := "nodeChanges", inPlace := ["internal/bytealg.IndexByteString", "internal/bytealg.IndexString"], unfollowed := true, recurses := true, named := ["internal/bytealg.MaxLen"], apart := false }
def NodeChangesSaid : Prop := nodeChangesRow.holds Try.pinned (OpenSpec.ofChange nodeChangesSpec)

/-- ITS FALSE NEIGHBOUR: 'it returns false'. Refute it at one input. -/
def nodeChangesWrong : ChangeSpec := { name := "nodeChanges", fn := fun _ => fun
  | [d1, d2, d3] => { results := [.lit (.bool false)], args := [d1, d2, d3] }
  | _ => none }
def NodeChangesWrongFalsely : Prop := nodeChangesRow.holds Try.pinned (OpenSpec.ofChange nodeChangesWrong)

/-- 'gaolerlaw08.NodeStays': WHATEVER THE INPUT: true; the input reads as it did. -/
def nodeStaysSpec : ChangeSpec := { name := "nodeStays", fn := fun _ => fun
  | [d1, d2, d3] => { results := [.lit (.bool true)], args := [d1, d2, d3] }
  | _ => none }
def nodeStaysRow : OpenClaim := { program := "ytmokoofibnoojaa", sum := "d8bfea3295ef340b811c7c158a4c80313dff0bfd4772f16e145fd6d932c8130c", func := "gaoler/gaolerlaw08.NodeStays", spec := "nodeStays", inPlace := ["internal/bytealg.IndexByteString", "internal/bytealg.IndexString"], unfollowed := true, recurses := true, named := ["internal/bytealg.MaxLen"], apart := false }
def NodeStaysSaid : Prop := nodeStaysRow.holds Try.pinned (OpenSpec.ofChange nodeStaysSpec)

/-- ITS FALSE NEIGHBOUR: 'it returns false'. Refute it at one input. -/
def nodeStaysWrong : ChangeSpec := { name := "nodeStays", fn := fun _ => fun
  | [d1, d2, d3] => { results := [.lit (.bool false)], args := [d1, d2, d3] }
  | _ => none }
def NodeStaysWrongFalsely : Prop := nodeStaysRow.holds Try.pinned (OpenSpec.ofChange nodeStaysWrong)

/-- 'gaolerlaw08.NodeOrder': WHATEVER THE INPUT: true; the input reads as it did. -/
def nodeOrderSpec : ChangeSpec := { name := "nodeOrder", fn := fun _ => fun
  | [d1, d2] => { results := [.lit (.bool true)], args := [d1, d2] }
  | _ => none }
def nodeOrderRow : OpenClaim := { program := "ytmokoofibnoojaa", sum := "d8bfea3295ef340b811c7c158a4c80313dff0bfd4772f16e145fd6d932c8130c", func := "gaoler/gaolerlaw08.NodeOrder", spec := "nodeOrder", inPlace := ["internal/bytealg.IndexByteString", "internal/bytealg.IndexString"], unfollowed := true, recurses := true, named := ["internal/bytealg.MaxLen"], apart := false }
def NodeOrderSaid : Prop := nodeOrderRow.holds Try.pinned (OpenSpec.ofChange nodeOrderSpec)

/-- ITS FALSE NEIGHBOUR: 'it returns false'. Refute it at one input. -/
def nodeOrderWrong : ChangeSpec := { name := "nodeOrder", fn := fun _ => fun
  | [d1, d2] => { results := [.lit (.bool false)], args := [d1, d2] }
  | _ => none }
def NodeOrderWrongFalsely : Prop := nodeOrderRow.holds Try.pinned (OpenSpec.ofChange nodeOrderWrong)

/-- 'gaolerlaw08.NodeFinds': WHATEVER THE INPUT: true; the input reads as it did. -/
def nodeFindsSpec : ChangeSpec := { name := "nodeFinds", fn := fun _ => fun
  | [d1, d2] => { results := [.lit (.bool true)], args := [d1, d2] }
  | _ => none }
def nodeFindsRow : OpenClaim := { program := "ytmokoofibnoojaa", sum := "d8bfea3295ef340b811c7c158a4c80313dff0bfd4772f16e145fd6d932c8130c", func := "gaoler/gaolerlaw08.NodeFinds", spec := "nodeFinds", inPlace := ["internal/bytealg.IndexByteString", "internal/bytealg.IndexString"], unfollowed := true, recurses := true, named := ["internal/bytealg.MaxLen"], apart := false }
def NodeFindsSaid : Prop := nodeFindsRow.holds Try.pinned (OpenSpec.ofChange nodeFindsSpec)

/-- ITS FALSE NEIGHBOUR: 'it returns false'. Refute it at one input. -/
def nodeFindsWrong : ChangeSpec := { name := "nodeFinds", fn := fun _ => fun
  | [d1, d2] => { results := [.lit (.bool false)], args := [d1, d2] }
  | _ => none }
def NodeFindsWrongFalsely : Prop := nodeFindsRow.holds Try.pinned (OpenSpec.ofChange nodeFindsWrong)

/- THE SECOND FORM. 'bulk': how many values and letters a reading holds, each counted each time it is reached (what is shared counts as often as it is met; a slice's spare places count too). A statement '..UptoSaid' is the law's where the arguments, and the package variables that the reading takes, are together of bulk at most 1048576: NARROWER than '..Said'. Prove '..Said' where nothing that the law and all that it calls make is longer than what came in: it says more and counts as full. Else prove '..UptoSaid'. A law counts once. -/
mutual
def uptoBulk {H : Type} : DataW H → Nat
  | .lit (.string bytes) => bytes.length + 1
  | .lit _ => 1
  | .nil => 1
  | .ptr d => uptoBulk d + 1
  | .slice elems spare => uptoBulkAll elems + uptoBulkAll spare + 1
  | .agg parts => uptoBulkAll parts + 1
  | .iface _ d => uptoBulk d + 1
  | .map entries => uptoBulkEntries entries + 1
  | .held _ => 1
def uptoBulkAll {H : Type} : List (DataW H) → Nat
  | [] => 0
  | d :: r => uptoBulk d + uptoBulkAll r
def uptoBulkEntries {H : Type} : List (Lit × DataW H) → Nat
  | [] => 0
  | x :: r => uptoBulkEntry x + uptoBulkEntries r
def uptoBulkEntry {H : Type} : Lit × DataW H → Nat
  | (.string bytes, d) => bytes.length + uptoBulk d + 1
  | (_, d) => uptoBulk d + 1
 end
def uptoSmall : (H : Type) → List (DataW H) → Bool := fun _ ds => decide (uptoBulkAll ds ≤ 1048576)
def OpenSpec.upto (s : _root_.Go.ChangeSpec) : _root_.Go.OpenSpec := { _root_.Go.OpenSpec.ofChange s with cond := some uptoSmall }

/-- 'gaolerlaw11.ResolveFinds', WHERE WHAT IT READS IS OF BULK AT MOST 1048576: true; the input reads as it did. -/
def resolveFindsUptoRow : OpenClaim := { program := "ytmokoofibnoojaa", sum := "d8bfea3295ef340b811c7c158a4c80313dff0bfd4772f16e145fd6d932c8130c", func := "gaoler/gaolerlaw11.ResolveFinds", spec := "resolveFinds", inPlace := ["internal/bytealg.IndexByteString", "internal/bytealg.IndexString"], unfollowed := true, recurses := true, named := ["internal/bytealg.MaxLen"], apart := false, narrowed := true }
def ResolveFindsUptoSaid : Prop := resolveFindsUptoRow.holds Try.pinned (OpenSpec.upto resolveFindsSpec)

/-- 'gaolerlaw11.ResolveCan', WHERE WHAT IT READS IS OF BULK AT MOST 1048576: true; the input reads as it did. -/
def resolveCanUptoRow : OpenClaim := { program := "ytmokoofibnoojaa", sum := "d8bfea3295ef340b811c7c158a4c80313dff0bfd4772f16e145fd6d932c8130c", func := "gaoler/gaolerlaw11.ResolveCan", spec := "resolveCan", inPlace := ["internal/bytealg.IndexByteString", "internal/bytealg.IndexString"], unfollowed := true, recurses := true, named := ["internal/bytealg.MaxLen"], apart := false, narrowed := true }
def ResolveCanUptoSaid : Prop := resolveCanUptoRow.holds Try.pinned (OpenSpec.upto resolveCanSpec)

/-- 'gaolerlaw11.ResolveSearch', WHERE WHAT IT READS IS OF BULK AT MOST 1048576: true; the input reads as it did. -/
def resolveSearchUptoRow : OpenClaim := { program := "ytmokoofibnoojaa", sum := "d8bfea3295ef340b811c7c158a4c80313dff0bfd4772f16e145fd6d932c8130c", func := "gaoler/gaolerlaw11.ResolveSearch", spec := "resolveSearch", inPlace := ["internal/bytealg.IndexByteString", "internal/bytealg.IndexString"], unfollowed := true, recurses := true, named := ["internal/bytealg.MaxLen"], apart := false, narrowed := true }
def ResolveSearchUptoSaid : Prop := resolveSearchUptoRow.holds Try.pinned (OpenSpec.upto resolveSearchSpec)

/-- 'gaolerlaw11.ResolveDots', WHERE WHAT IT READS IS OF BULK AT MOST 1048576: true; the input reads as it did. -/
def resolveDotsUptoRow : OpenClaim := { program := "ytmokoofibnoojaa", sum := "d8bfea3295ef340b811c7c158a4c80313dff0bfd4772f16e145fd6d932c8130c", func := "gaoler/gaolerlaw11.ResolveDots", spec := "resolveDots", inPlace := ["internal/bytealg.IndexByteString", "internal/bytealg.IndexString"], unfollowed := true, recurses := true, named := ["internal/bytealg.MaxLen"], apart := false, narrowed := true }
def ResolveDotsUptoSaid : Prop := resolveDotsUptoRow.holds Try.pinned (OpenSpec.upto resolveDotsSpec)

/-- 'gaolerlaw11.ResolveParts', WHERE WHAT IT READS IS OF BULK AT MOST 1048576: true; the input reads as it did. -/
def resolvePartsUptoRow : OpenClaim := { program := "ytmokoofibnoojaa", sum := "d8bfea3295ef340b811c7c158a4c80313dff0bfd4772f16e145fd6d932c8130c", func := "gaoler/gaolerlaw11.ResolveParts", spec := "resolveParts", inPlace := ["internal/bytealg.IndexByteString", "internal/bytealg.IndexString"], unfollowed := true, recurses := true, named := ["internal/bytealg.MaxLen"], apart := false, narrowed := true }
def ResolvePartsUptoSaid : Prop := resolvePartsUptoRow.holds Try.pinned (OpenSpec.upto resolvePartsSpec)

/-- 'gaolerlaw11.ResolveRoot', WHERE WHAT IT READS IS OF BULK AT MOST 1048576: true; the input reads as it did. -/
def resolveRootUptoRow : OpenClaim := { program := "ytmokoofibnoojaa", sum := "d8bfea3295ef340b811c7c158a4c80313dff0bfd4772f16e145fd6d932c8130c", func := "gaoler/gaolerlaw11.ResolveRoot", spec := "resolveRoot", inPlace := ["internal/bytealg.IndexByteString", "internal/bytealg.IndexString"], unfollowed := true, recurses := true, named := ["internal/bytealg.MaxLen"], apart := false, narrowed := true }
def ResolveRootUptoSaid : Prop := resolveRootUptoRow.holds Try.pinned (OpenSpec.upto resolveRootSpec)

/-- 'gaolerlaw08.NodeRight', WHERE WHAT IT READS IS OF BULK AT MOST 1048576: true; the input reads as it did. -/
def nodeRightUptoRow : OpenClaim := { program := "ytmokoofibnoojaa", sum := "d8bfea3295ef340b811c7c158a4c80313dff0bfd4772f16e145fd6d932c8130c", func := "gaoler/gaolerlaw08.NodeRight", spec := "nodeRight", inPlace := ["internal/bytealg.IndexByteString", "internal/bytealg.IndexString"], unfollowed := true, recurses := true, named := ["internal/bytealg.MaxLen"], apart := false, narrowed := true }
def NodeRightUptoSaid : Prop := nodeRightUptoRow.holds Try.pinned (OpenSpec.upto nodeRightSpec)

/-- 'gaolerlaw08.NodeChanges', WHERE WHAT IT READS IS OF BULK AT MOST 1048576: true; the input reads as it did. -/
def nodeChangesUptoRow : OpenClaim := { program := "ytmokoofibnoojaa", sum := "d8bfea3295ef340b811c7c158a4c80313dff0bfd4772f16e145fd6d932c8130c", func := "gaoler/gaolerlaw08.NodeChanges", spec := "nodeChanges", inPlace := ["internal/bytealg.IndexByteString", "internal/bytealg.IndexString"], unfollowed := true, recurses := true, named := ["internal/bytealg.MaxLen"], apart := false, narrowed := true }
def NodeChangesUptoSaid : Prop := nodeChangesUptoRow.holds Try.pinned (OpenSpec.upto nodeChangesSpec)

/-- 'gaolerlaw08.NodeStays', WHERE WHAT IT READS IS OF BULK AT MOST 1048576: true; the input reads as it did. -/
def nodeStaysUptoRow : OpenClaim := { program := "ytmokoofibnoojaa", sum := "d8bfea3295ef340b811c7c158a4c80313dff0bfd4772f16e145fd6d932c8130c", func := "gaoler/gaolerlaw08.NodeStays", spec := "nodeStays", inPlace := ["internal/bytealg.IndexByteString", "internal/bytealg.IndexString"], unfollowed := true, recurses := true, named := ["internal/bytealg.MaxLen"], apart := false, narrowed := true }
def NodeStaysUptoSaid : Prop := nodeStaysUptoRow.holds Try.pinned (OpenSpec.upto nodeStaysSpec)

/-- 'gaolerlaw08.NodeOrder', WHERE WHAT IT READS IS OF BULK AT MOST 1048576: true; the input reads as it did. -/
def nodeOrderUptoRow : OpenClaim := { program := "ytmokoofibnoojaa", sum := "d8bfea3295ef340b811c7c158a4c80313dff0bfd4772f16e145fd6d932c8130c", func := "gaoler/gaolerlaw08.NodeOrder", spec := "nodeOrder", inPlace := ["internal/bytealg.IndexByteString", "internal/bytealg.IndexString"], unfollowed := true, recurses := true, named := ["internal/bytealg.MaxLen"], apart := false, narrowed := true }
def NodeOrderUptoSaid : Prop := nodeOrderUptoRow.holds Try.pinned (OpenSpec.upto nodeOrderSpec)

/-- 'gaolerlaw08.NodeFinds', WHERE WHAT IT READS IS OF BULK AT MOST 1048576: true; the input reads as it did. -/
def nodeFindsUptoRow : OpenClaim := { program := "ytmokoofibnoojaa", sum := "d8bfea3295ef340b811c7c158a4c80313dff0bfd4772f16e145fd6d932c8130c", func := "gaoler/gaolerlaw08.NodeFinds", spec := "nodeFinds", inPlace := ["internal/bytealg.IndexByteString", "internal/bytealg.IndexString"], unfollowed := true, recurses := true, named := ["internal/bytealg.MaxLen"], apart := false, narrowed := true }
def NodeFindsUptoSaid : Prop := nodeFindsUptoRow.holds Try.pinned (OpenSpec.upto nodeFindsSpec)

end Rows
end Go.Proofs.Ytmokoofibnoojaa
