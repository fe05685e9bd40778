import Derived.Test.YtpifnlodilcgkaaXH
set_option linter.unusedVariables false
namespace Go.Proofs.Ytpifnlodilcgkaa
namespace Abs
set_option linter.unusedSimpArgs false
set_option maxRecDepth 10000
set_option maxHeartbeats 2000000
attribute [local irreducible] AOps AW AP ACalls thenQ inBlk noGoto

/-! ### what is built, and the document's example -/
theorem buildFrom_some : ∀ {l : List Raw} {T : Tab} {i : Int}, ((buildFrom T i l).1 ≠ none → (buildFrom T i l).2 = (0, 0)) ∧ ((buildFrom T i l).1 = none → (buildFrom T i l).2.2 ≠ 0)
  | [], T, i => ⟨fun _ => rfl, fun h => by cases h⟩
  | r :: l, T, i => by
    rw [buildFrom_cons]
    split
    · exact buildFrom_some
    · rename_i h
      exact ⟨fun h' => absurd rfl h', fun _ => h⟩
theorem build_some {room : Int} {l : List Raw} : ((build room l).1 ≠ none → (build room l).2 = (0, 0)) ∧ ((build room l).1 = none → (build room l).2.2 ≠ 0) := by
  cases l with
  | nil => exact ⟨fun h => absurd rfl h, fun _ => (by decide : (22 : Int) ≠ 0)⟩
  | cons r l =>
    rw [build_cons]
    split
    · exact ⟨fun h => absurd rfl h, fun _ => (by decide : (22 : Int) ≠ 0)⟩
    · split
      · rename_i h
        exact ⟨fun h' => absurd rfl h', fun _ => h⟩
      · exact buildFrom_some
structure Built (room : Int) (l : List Raw) (c : Cred) (T : Tab) : Prop where
  len : l.length ≤ 50
  groups : c.groups.length ≤ 10
  few : ∀ r ∈ l, r.few
  tree : (build room l).1 = some T
theorem Built.good {room : Int} {l : List Raw} {c : Cred} {T : Tab} (h : Built room l c T) : T.good := good_build h.tree
theorem Built.small {room : Int} {l : List Raw} {c : Cred} {T : Tab} (h : Built room l c T) : c.small := by have := h.groups; unfold Cred.small; omega
def encRawO (r : Raw) (o : Own) : List AVal := [.i r.kind, .i r.mode, .i r.uid, .i r.gid, .i r.parent, .s r.name, .sl (encBytes r.data) o, .s r.target, .i r.node]
end Abs
end Go.Proofs.Ytpifnlodilcgkaa
