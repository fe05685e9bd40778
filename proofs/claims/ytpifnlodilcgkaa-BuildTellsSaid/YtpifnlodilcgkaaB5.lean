import Derived.Test.YtpifnlodilcgkaaB2
set_option linter.unusedVariables false
namespace Go.Proofs.Ytpifnlodilcgkaa
namespace Abs

/-! ### nodes, as they are handed in -/
def okNodes (x : AVal) : Prop := ∃ l : List Node, x = .sl (l.map encNode) .no ∧ l.length ≤ maxLen
theorem opensV_nodes : OpensV Try.prog 67 okNodes :=
  (opensV_slice (by kernel_rfl) Try.underlying67 (by decide) opens_node).mono fun x ⟨rows, e, hl, hr⟩ => by
    obtain ⟨l, rfl, _⟩ := rows_map (enc := encNode) (Q := fun _ => True) (fun r h => by
      obtain ⟨⟨s, rfl, _⟩, _⟩ := hr r h
      exact ⟨s, rfl, trivial⟩)
    exact ⟨l, e, by simpa using hl⟩
end Abs
end Go.Proofs.Ytpifnlodilcgkaa
