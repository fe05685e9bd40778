import Derived.Test.YtpifnlodilcgkaaGreatB0
import Derived.Test.YtpifnlodilcgkaaGreatX7
import Derived.Test.YtpifnlodilcgkaaGreatX1
set_option linter.unusedVariables false
namespace Go.Proofs.YtpifnlodilcgkaaGreat
namespace Abs

/-! ### what is told of nodes, and who asks, as it is handed in -/
structure Cred.wf (c : Cred) : Prop where
  uid : in64 c.uid
  gid : in64 c.gid
  groups : c.groups.length ≤ maxLen
def okRaws (x : AVal) : Prop := ∃ l : List Raw, x = .sl (encRaws l) .no ∧ l.length ≤ maxLen
def okCred (x : AVal) : Prop := ∃ c : Cred, x = .agg (encCred c) ∧ c.wf
def okInt (x : AVal) : Prop := ∃ n : Int, x = .sc (.int .i64 n) ∧ in64 n
theorem opens_raw : Opens Tryz.prog 55 9 (fun xs => ∃ r : Raw, xs = encRaw r) :=
  (opens_struct (rs := [(1, _), (1, _), (1, _), (1, _), (1, _), (1, _), (1, _), (1, _), (1, _)]) (by kernel_rfl) Tryz.underlying55
    ⟨rfl, opens_int (k := .i64) (by kernel_rfl) Tryz.underlying3, rfl, opens_int (k := .i64) (by kernel_rfl) Tryz.underlying3, rfl, opens_int (k := .i64) (by kernel_rfl) Tryz.underlying3, rfl, opens_int (k := .i64) (by kernel_rfl) Tryz.underlying3,
      rfl, opens_int (k := .i64) (by kernel_rfl) Tryz.underlying3, rfl, opens_string (by kernel_rfl) Tryz.underlying9, rfl, opens_bytes, rfl, opens_string (by kernel_rfl) Tryz.underlying9, rfl, opens_int (k := .i64) (by kernel_rfl) Tryz.underlying3, trivial⟩ rfl).mono fun xs h => by
    obtain ⟨_, _, rfl, ⟨k, rfl, _⟩, _, _, rfl, ⟨m, rfl, _⟩, _, _, rfl, ⟨u, rfl, _⟩, _, _, rfl, ⟨g, rfl, _⟩, _, _, rfl, ⟨p, rfl, _⟩, _, _, rfl, ⟨nm, rfl, _⟩, _, _, rfl, ⟨d, rfl, _⟩, _, _, rfl, ⟨t, rfl, _⟩, _, _, rfl, ⟨n, rfl, _⟩, rfl⟩ := h
    exact ⟨⟨k, m, u, g, p, nm, d, t, n⟩, rfl⟩
theorem opensV_raws : OpensV Tryz.prog 22 okRaws :=
  (opensV_slice (by kernel_rfl) Tryz.underlying22 (by decide) opens_raw).mono fun x ⟨rows, e, hl, hr⟩ => by
    obtain ⟨l, rfl, _⟩ := rows_map (enc := encRaw) (Q := fun _ => True) (fun r h => by
      obtain ⟨⟨s, rfl⟩, _⟩ := hr r h
      exact ⟨s, rfl, trivial⟩)
    exact ⟨l, e, by simpa using hl⟩
theorem opens_ints : Opens Tryz.prog 23 1 (fun xs => ∃ l : List Int, xs = [.sl (encInts l) .no] ∧ l.length ≤ maxLen) :=
  (opens_slice (by kernel_rfl) Tryz.underlying23 (by decide) (opens_int (k := .i64) (by kernel_rfl) Tryz.underlying3)).mono fun xs ⟨rows, e, hl, hr⟩ => by
    obtain ⟨l, rfl, _⟩ := rows_map (enc := fun n : Int => [AVal.i n]) (Q := fun _ => True) (rows := rows) (fun r h => by
      obtain ⟨⟨n, rfl, _⟩, _⟩ := hr r h
      exact ⟨n, rfl, trivial⟩)
    exact ⟨l, e, by simpa using hl⟩
theorem opensV_cred : OpensV Tryz.prog 25 okCred :=
  (opensV_struct (rs := [(1, _), (1, _), (1, _)]) (by kernel_rfl) Tryz.underlying25 ⟨rfl, opens_int (k := .i64) (by kernel_rfl) Tryz.underlying3, rfl, opens_int (k := .i64) (by kernel_rfl) Tryz.underlying3, rfl, opens_ints, trivial⟩ rfl).mono fun x h => by
    obtain ⟨xs, rfl, h⟩ := h
    obtain ⟨_, _, rfl, ⟨u, rfl, hu⟩, _, _, rfl, ⟨g, rfl, hg⟩, _, _, rfl, ⟨l, rfl, hl⟩, rfl⟩ := h
    exact ⟨⟨u, g, l⟩, rfl, in64_of hu, in64_of hg, hl⟩
theorem opensV_i64 : OpensV Tryz.prog 3 okInt := (opensV_int Tryz.underlying3).mono (fun x ⟨n, e, h⟩ => ⟨n, e, in64_of h⟩)
end Abs
end Go.Proofs.YtpifnlodilcgkaaGreat
