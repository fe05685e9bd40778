import Derived.Test.YtpifnlodilcgkaaB0
import Derived.Test.YtpifnlodilcgkaaX7
import Derived.Test.YtpifnlodilcgkaaX1
set_option linter.unusedVariables false
namespace Go.Proofs.Ytpifnlodilcgkaa
namespace Abs

/-! ### what is told of nodes, and who asks, as it is handed in -/
structure Cred.wf (c : Cred) : Prop where
  uid : in64 c.uid
  gid : in64 c.gid
  groups : c.groups.length ≤ maxLen
def okRaws (x : AVal) : Prop := ∃ l : List Raw, x = .sl (encRaws l) .no ∧ l.length ≤ maxLen
def okInt (x : AVal) : Prop := ∃ n : Int, x = .sc (.int .i64 n) ∧ in64 n
theorem opens_raw : Opens Try.prog 80 9 (fun xs => ∃ r : Raw, xs = encRaw r) :=
  (opens_struct (rs := [(1, _), (1, _), (1, _), (1, _), (1, _), (1, _), (1, _), (1, _), (1, _)]) (by kernel_rfl) Try.underlying80
    ⟨rfl, opens_int (k := .i64) (by kernel_rfl) Try.underlying3, rfl, opens_int (k := .i64) (by kernel_rfl) Try.underlying3, rfl, opens_int (k := .i64) (by kernel_rfl) Try.underlying3, rfl, opens_int (k := .i64) (by kernel_rfl) Try.underlying3,
      rfl, opens_int (k := .i64) (by kernel_rfl) Try.underlying3, rfl, opens_string (by kernel_rfl) Try.underlying9, rfl, opens_bytes, rfl, opens_string (by kernel_rfl) Try.underlying9, rfl, opens_int (k := .i64) (by kernel_rfl) Try.underlying3, trivial⟩ rfl).mono fun xs h => by
    obtain ⟨_, _, rfl, ⟨k, rfl, _⟩, _, _, rfl, ⟨m, rfl, _⟩, _, _, rfl, ⟨u, rfl, _⟩, _, _, rfl, ⟨g, rfl, _⟩, _, _, rfl, ⟨p, rfl, _⟩, _, _, rfl, ⟨nm, rfl, _⟩, _, _, rfl, ⟨d, rfl, _⟩, _, _, rfl, ⟨t, rfl, _⟩, _, _, rfl, ⟨n, rfl, _⟩, rfl⟩ := h
    exact ⟨⟨k, m, u, g, p, nm, d, t, n⟩, rfl⟩
theorem opensV_raws : OpensV Try.prog 22 okRaws :=
  (opensV_slice (by kernel_rfl) Try.underlying22 (by decide) opens_raw).mono fun x ⟨rows, e, hl, hr⟩ => by
    obtain ⟨l, rfl, _⟩ := rows_map (enc := encRaw) (Q := fun _ => True) (fun r h => by
      obtain ⟨⟨s, rfl⟩, _⟩ := hr r h
      exact ⟨s, rfl, trivial⟩)
    exact ⟨l, e, by simpa using hl⟩
theorem opensV_i64 : OpensV Try.prog 3 okInt := (opensV_int Try.underlying3).mono (fun x ⟨n, e, h⟩ => ⟨n, e, in64_of h⟩)
end Abs
end Go.Proofs.Ytpifnlodilcgkaa
