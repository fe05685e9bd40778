import Derived.Test.YtmokoofibnoojaaL1
import Derived.Test.YtmokoofibnoojaaB1
set_option linter.unusedVariables false
namespace Go.Proofs.Ytmokoofibnoojaa
namespace Abs

/-! ### nodes that are handed in -/
def in64 (n : Int) : Prop := -9223372036854775808 ≤ n ∧ n ≤ 9223372036854775807
theorem in64_of {n : Int} (h : (Lit.int .i64 n).wf = true) : in64 n := by
  simp only [Lit.wf, Bool.and_eq_true, decide_eq_true_eq] at h
  exact h
theorem u8_of {n : Int} (h : (Lit.int .u8 n).wf = true) : 0 ≤ n ∧ n ≤ 255 := by
  simp only [Lit.wf, Bool.and_eq_true, decide_eq_true_eq] at h
  exact h
def Ent.wf (e : Ent) : Prop := e.name.size ≤ maxLen ∧ in64 e.node
structure Node.wf (n : Node) : Prop where
  kind : in64 n.kind
  mode : in64 n.mode
  uid : in64 n.uid
  gid : in64 n.gid
  data : n.data.size ≤ maxLen
  ents : n.ents.length ≤ maxLen
  target : n.target.size ≤ maxLen
  each : ∀ e ∈ n.ents, e.wf
theorem Node.wf.len {n : Node} (h : n.wf) : n.len := by have := h.ents; simp only [maxLen] at this; unfold Node.len; omega

theorem rows_map {α : Type} {enc : α → List AVal} {Q : α → Prop} : ∀ {rows : List (List AVal)}, (∀ r ∈ rows, ∃ a, r = enc a ∧ Q a) → ∃ l : List α, rows = l.map enc ∧ ∀ a ∈ l, Q a
  | [], _ => ⟨[], rfl, fun a h => by cases h⟩
  | r :: rows, h => by
    obtain ⟨a, rfl, ha⟩ := h r List.mem_cons_self
    obtain ⟨l, rfl, hl⟩ := rows_map (rows := rows) (fun r hr => h r (List.mem_cons_of_mem _ hr))
    refine ⟨a :: l, rfl, fun x hx => ?_⟩
    rcases List.mem_cons.1 hx with rfl | hx
    · exact ha
    · exact hl x hx

theorem opens_bytes : Opens Try.prog 48 1 (fun xs => ∃ s : ByteArray, xs = [.sl (encBytes s) .no] ∧ s.size ≤ maxLen) :=
  (opens_slice (by kernel_rfl) Try.underlying48 (by decide) (opens_int (k := .u8) (by kernel_rfl) Try.underlying5)).mono fun xs ⟨rows, e, hl, hr⟩ => by
    obtain ⟨l, rfl, _⟩ := rows_map (enc := fun c : UInt8 => [AVal.sc (.int .u8 c.toNat)]) (Q := fun _ => True) (rows := rows) (fun r h => by
      obtain ⟨⟨n, rfl, hn⟩, _⟩ := hr r h
      have := u8_of hn
      refine ⟨UInt8.ofNat n.toNat, ?_, trivial⟩
      have : ((UInt8.ofNat n.toNat).toNat : Int) = n := by simp; omega
      rw [this])
    refine ⟨⟨l.toArray⟩, by rw [e]; simp [encBytes], by simpa [ByteArray.size] using hl⟩
theorem opens_ent : Opens Try.prog 87 2 (fun xs => ∃ e : Ent, xs = encEnt e ∧ e.wf) :=
  (opens_struct (rs := [(1, _), (1, _)]) (by kernel_rfl) Try.underlying87 ⟨rfl, opens_string (by kernel_rfl) Try.underlying9, rfl, opens_int (k := .i64) (by kernel_rfl) Try.underlying3, trivial⟩ rfl).mono fun xs h => by
    obtain ⟨_, _, rfl, ⟨s, rfl, hs⟩, _, _, rfl, ⟨n, rfl, hn⟩, rfl⟩ := h
    exact ⟨⟨s, n⟩, rfl, hs, in64_of hn⟩
theorem opens_ents : Opens Try.prog 49 1 (fun xs => ∃ l : List Ent, xs = [.sl (l.map encEnt) .no] ∧ l.length ≤ maxLen ∧ ∀ e ∈ l, e.wf) :=
  (opens_slice (by kernel_rfl) Try.underlying49 (by decide) opens_ent).mono fun xs ⟨rows, e, hl, hr⟩ => by
    obtain ⟨l, rfl, hw⟩ := rows_map (fun r h => (hr r h).1)
    exact ⟨l, e, by simpa using hl, hw⟩
theorem opens_node : Opens Try.prog 51 7 (fun xs => ∃ n : Node, xs = encNode n ∧ n.wf) :=
  (opens_struct (rs := [(1, _), (1, _), (1, _), (1, _), (1, _), (1, _), (1, _)]) (by kernel_rfl) Try.underlying51
    ⟨rfl, opens_int (k := .i64) (by kernel_rfl) Try.underlying3, rfl, opens_int (k := .i64) (by kernel_rfl) Try.underlying3, rfl, opens_int (k := .i64) (by kernel_rfl) Try.underlying3, rfl, opens_int (k := .i64) (by kernel_rfl) Try.underlying3,
      rfl, opens_bytes, rfl, opens_ents, rfl, opens_string (by kernel_rfl) Try.underlying9, trivial⟩ rfl).mono fun xs h => by
    obtain ⟨_, _, rfl, ⟨k, rfl, hk⟩, _, _, rfl, ⟨m, rfl, hm⟩, _, _, rfl, ⟨u, rfl, hu⟩, _, _, rfl, ⟨g, rfl, hg⟩, _, _, rfl, ⟨d, rfl, hd⟩, _, _, rfl, ⟨es, rfl, he, hew⟩, _, _, rfl, ⟨t, rfl, ht⟩, rfl⟩ := h
    exact ⟨⟨k, m, u, g, d, es, t⟩, rfl, in64_of hk, in64_of hm, in64_of hu, in64_of hg, hd, he, ht, hew⟩
theorem opensV_node : OpensV Try.prog 51 (fun x => ∃ n : Node, x = .agg (encNode n) ∧ n.wf) :=
  (opensV_struct (rs := [(1, _), (1, _), (1, _), (1, _), (1, _), (1, _), (1, _)]) (by kernel_rfl) Try.underlying51
    ⟨rfl, opens_int (k := .i64) (by kernel_rfl) Try.underlying3, rfl, opens_int (k := .i64) (by kernel_rfl) Try.underlying3, rfl, opens_int (k := .i64) (by kernel_rfl) Try.underlying3, rfl, opens_int (k := .i64) (by kernel_rfl) Try.underlying3,
      rfl, opens_bytes, rfl, opens_ents, rfl, opens_string (by kernel_rfl) Try.underlying9, trivial⟩ rfl).mono fun x h => by
    obtain ⟨xs, ex, h⟩ := h
    subst ex
    obtain ⟨_, _, rfl, ⟨k, rfl, hk⟩, _, _, rfl, ⟨m, rfl, hm⟩, _, _, rfl, ⟨u, rfl, hu⟩, _, _, rfl, ⟨g, rfl, hg⟩, _, _, rfl, ⟨d, rfl, hd⟩, _, _, rfl, ⟨es, rfl, he, hew⟩, _, _, rfl, ⟨t, rfl, ht⟩, rfl⟩ := h
    exact ⟨⟨k, m, u, g, d, es, t⟩, rfl, in64_of hk, in64_of hm, in64_of hu, in64_of hg, hd, he, ht, hew⟩
end Abs
theorem Try.own : ownKnob Try.prog.godebug = none := by kernel_rfl
theorem Try.laidOut : laidOutB Try.prog = true := by kernel_rfl
end Go.Proofs.Ytmokoofibnoojaa
