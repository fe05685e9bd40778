import Derived.Test.YtpifnlodilcgkaaN1
import Derived.Test.YtpifnlodilcgkaaA10
set_option linter.unusedVariables false
namespace Go.Proofs.Ytpifnlodilcgkaa
namespace Abs
set_option maxRecDepth 10000

/-! ### the document's chapter 07: names -/
/-! ### Less -/
end Abs
end Go.Proofs.Ytpifnlodilcgkaa

set_option linter.unusedVariables false
namespace Go.Proofs.Ytpifnlodilcgkaa
namespace Abs
set_option maxRecDepth 10000

/-! ### the document's chapter 08: nodes -/
def encNames (l : List Ent) : List (List AVal) := l.map fun e => [.s e.name]
def encKids (l : List Ent) : List (List AVal) := l.map fun e => [.i e.node]
def encM (n : Node) : List AVal := [.i n.kind, .i n.mode, .i n.uid, .i n.gid, .s n.data, .sl (encNames n.ents) .no, .sl (encKids n.ents) .no, .s n.target]
theorem names_len (l : List Ent) : (encNames l).length = l.length := by simp [encNames]
theorem kids_len (l : List Ent) : (encKids l).length = l.length := by simp [encKids]
theorem names_get (l : List Ent) (k : Nat) (h : k < l.length) : (encNames l)[(k : Int).toNat]? = some [.s l[k].name] := by simp [encNames, h]
theorem kids_get (l : List Ent) (k : Nat) (h : k < l.length) : (encKids l)[(k : Int).toNat]? = some [.i l[k].node] := by simp [encKids, h]
def Node.nlen (n : Node) : Prop := n.ents.length ≤ 1073741824 ∧ ∀ e ∈ n.ents, e.name.size ≤ 1073741824
end Abs
end Go.Proofs.Ytpifnlodilcgkaa

set_option linter.unusedVariables false
namespace Go.Proofs.Ytpifnlodilcgkaa
namespace Abs
set_option maxRecDepth 10000

end Abs
end Go.Proofs.Ytpifnlodilcgkaa
