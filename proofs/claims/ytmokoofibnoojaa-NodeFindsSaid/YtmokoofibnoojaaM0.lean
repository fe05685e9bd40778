import Derived.Test.YtmokoofibnoojaaW0
import Derived.Test.YtmokoofibnoojaaA9
set_option linter.unusedVariables false
namespace Go.Proofs.Ytmokoofibnoojaa
namespace Abs

/-! ### Values of the program, as plain data -/
structure Ent where
  name : ByteArray
  node : Int
structure Node where
  kind : Int
  mode : Int
  uid : Int
  gid : Int
  data : ByteArray
  ents : List Ent
  target : ByteArray
structure Tab where
  room : Int
  nodes : List Node

abbrev AVal.i (n : Int) : AVal := .sc (.int .i64 n)
abbrev AVal.b (x : Bool) : AVal := .sc (.bool x)
abbrev AVal.s (x : ByteArray) : AVal := .sc (.string x)
abbrev AVal.nilp : AVal := .sc (.pointer none)

def encBytes (s : ByteArray) : List (List AVal) := s.data.toList.map fun c => [.sc (.int .u8 c.toNat)]
def encEnt (e : Ent) : List AVal := [.s e.name, .i e.node]
def encNode (n : Node) : List AVal := [.i n.kind, .i n.mode, .i n.uid, .i n.gid, .sl (encBytes n.data) .no, .sl (n.ents.map encEnt) .no, .s n.target]
def encTab (t : Tab) : List AVal := .i t.room :: (t.nodes.map encNode).flatten
def Node.zero : Node := ⟨0, 0, 0, 0, ⟨#[]⟩, [], ⟨#[]⟩⟩
def Node.small (n : Node) : Prop := n.data.size ≤ 1073741824 ∧ n.ents.length ≤ 1073741824
def Tab.wf (t : Tab) : Prop := t.nodes.length = 24 ∧ (1 ≤ t.room ∧ t.room ≤ 24) ∧ ∀ n ∈ t.nodes, n.small
def Tab.get (t : Tab) (i : Int) : Node := t.nodes.getD (i - 1).toNat Node.zero
/-- The node of a number; none: there is none. -/
def Tab.has (t : Tab) (i : Int) : Bool := decide (1 ≤ i) && decide (i ≤ t.room) && !decide ((t.nodes.getD (i - 1).toNat Node.zero).kind = 0)

theorem encTab_agg (t : Tab) (i : Nat) : ((encTab t).drop (1 + i * 7)).take 7 = match t.nodes[i]? with | some n => encNode n | none => [] := by
  rw [show 1 + i * 7 = (i * 7) + 1 by omega, encTab, List.drop_succ_cons]
  have h : ∀ (l : List Node) (i : Nat), (((l.map encNode).flatten).drop (i * 7)).take 7 = match l[i]? with | some n => encNode n | none => [] := by
    intro l
    induction l with
    | nil => intro i; simp
    | cons n l ih =>
      intro i
      have hn : (encNode n).length = 7 := rfl
      cases i with
      | zero => simp [hn]
      | succ i => rw [Nat.succ_mul, Nat.add_comm, List.map_cons, List.flatten_cons, ← hn, List.drop_length_add_append, hn, ih]; rfl
  exact h t.nodes i
theorem uni_ents (l : List Ent) : Uni 2 (l.map encEnt) := fun x hx => by
  obtain ⟨e, _, rfl⟩ := List.mem_map.1 hx; rfl
theorem uni_bytes (s : ByteArray) : Uni 1 (encBytes s) := fun x hx => by
  obtain ⟨e, _, rfl⟩ := List.mem_map.1 hx; rfl
theorem uni_nodes (l : List Node) : Uni 7 (l.map encNode) := fun x hx => by
  obtain ⟨e, _, rfl⟩ := List.mem_map.1 hx; rfl
theorem encTab_len (t : Tab) (h : t.nodes.length = 24) : (encTab t).length = 169 := by
  simp [encTab, (uni_nodes t.nodes).len, h]
theorem encTab_get (t : Tab) (i j : Nat) (hj : j < 7) : (encTab t)[1 + i * 7 + j]? = (t.nodes[i]?).bind fun n => (encNode n)[j]? := by
  rw [show 1 + i * 7 + j = (i * 7 + j) + 1 by omega, encTab, List.getElem?_cons_succ, (uni_nodes t.nodes).flat_get i j hj]
  simp
  cases t.nodes[i]? <;> rfl

end Abs
end Go.Proofs.Ytmokoofibnoojaa

set_option linter.unusedVariables false
namespace Go.Proofs.Ytmokoofibnoojaa
namespace Abs
set_option maxRecDepth 10000
attribute [local irreducible] AOps AW ACalls thenQ inBlk noGoto

theorem uni_nil (k : Nat) : Uni k [] := fun x h => by cases h
theorem sub_free {H : AHeap} {o o' : Own} (h : Apart (H.free o) o') (ho : o = .full) : H.sub ((H.free o).own o') := by
  subst ho
  cases o' with
  | no => exact h.elim
  | full => exact AHeap.sub_refl _
  | tok b e s => exact sub_new h (AHeap.sub_refl _)

theorem clone_bytes {xs : List (List AVal)} {o : Own} {H : AHeap} {K : AVal → AHeap → Prop} (hu : Uni 1 xs) (hf : flatA xs.flatten = true) (hl : xs.length * 1 ≤ 140737488355328) (hK : K (.sl xs .no) H) :
    ACalls Try.prog 100 [.sl xs o] H K := by
  refine acalls_body Try.func100 rfl rfl rfl ?_
  repeat (first|(apply w1;apply rfl;apply rfl)|(apply w2;apply rfl)|(apply w3;apply rfl;apply rfl)|apply w4|apply w5|apply w6|apply w7|(apply w8;apply rfl)|(apply w9;apply rfl)|apply wa|apply wd|apply we|apply wb|apply wc|apply wf|apply wg|apply wh|(apply wi;apply rfl)|apply wj|apply wk|apply wl|apply wm|apply wn)
  refine s_slnil tk rfl rfl rfl (fun b hb => ?_)
  repeat (first|(apply w1;apply rfl;apply rfl)|(apply w2;apply rfl)|(apply w3;apply rfl;apply rfl)|apply w4|apply w5|apply w6|apply w7|(apply w8;apply rfl)|(apply w9;apply rfl)|apply wa|apply wd|apply we|apply wb|apply wc|apply wf|apply wg|apply wh|(apply wi;apply rfl)|apply wj|apply wk|apply wl|apply wm|apply wn)
  refine aw_cond rfl (fun h => ?_) (fun h => ?_)
  · have := hb h
    subst this
    repeat (first|(apply w1;apply rfl;apply rfl)|(apply w2;apply rfl)|(apply w3;apply rfl;apply rfl)|apply w4|apply w5|apply w6|apply w7|(apply w8;apply rfl)|(apply w9;apply rfl)|apply wa|apply wd|apply we|apply wb|apply wc|apply wf|apply wg|apply wh|(apply wi;apply rfl)|apply wj|apply wk|apply wl|apply wm|apply wn)
    exact rt1 rfl rfl (.sl _ _) (AHeap.sub_refl _) hK
  · repeat (first|(apply w1;apply rfl;apply rfl)|(apply w2;apply rfl)|(apply w3;apply rfl;apply rfl)|apply w4|apply w5|apply w6|apply w7|(apply w8;apply rfl)|(apply w9;apply rfl)|apply wa|apply wd|apply we|apply wb|apply wc|apply wf|apply wg|apply wh|(apply wi;apply rfl)|apply wj|apply wk|apply wl|apply wm|apply wn)
    refine s_bslice tk rfl rfl rfl rfl rfl rfl (uni_nil _) (by decide) ?_
    repeat (first|(apply w1;apply rfl;apply rfl)|(apply w2;apply rfl)|(apply w3;apply rfl;apply rfl)|apply w4|apply w5|apply w6|apply w7|(apply w8;apply rfl)|(apply w9;apply rfl)|apply wa|apply wd|apply we|apply wb|apply wc|apply wf|apply wg|apply wh|(apply wi;apply rfl)|apply wj|apply wk|apply wl|apply wm|apply wn)
    refine s_append tk rfl rfl rfl rfl rfl (uni_nil _) hu hf trivial trivial (by simpa using hl) (fun o' h1 h2 => ?_)
    repeat (first|(apply w1;apply rfl;apply rfl)|(apply w2;apply rfl)|(apply w3;apply rfl;apply rfl)|apply w4|apply w5|apply w6|apply w7|(apply w8;apply rfl)|(apply w9;apply rfl)|apply wa|apply wd|apply we|apply wb|apply wc|apply wf|apply wg|apply wh|(apply wi;apply rfl)|apply wj|apply wk|apply wl|apply wm|apply wn)
    exact rt1 rfl rfl (.sl _ _) (sub_free h1 rfl) hK
theorem clone_ents {xs : List (List AVal)} {o : Own} {H : AHeap} {K : AVal → AHeap → Prop} (hu : Uni 2 xs) (hf : flatA xs.flatten = true) (hl : xs.length * 24 ≤ 140737488355328) (hK : K (.sl xs .no) H) :
    ACalls Try.prog 101 [.sl xs o] H K := by
  refine acalls_body Try.func101 rfl rfl rfl ?_
  repeat (first|(apply w1;apply rfl;apply rfl)|(apply w2;apply rfl)|(apply w3;apply rfl;apply rfl)|apply w4|apply w5|apply w6|apply w7|(apply w8;apply rfl)|(apply w9;apply rfl)|apply wa|apply wd|apply we|apply wb|apply wc|apply wf|apply wg|apply wh|(apply wi;apply rfl)|apply wj|apply wk|apply wl|apply wm|apply wn)
  refine s_slnil tk rfl rfl rfl (fun b hb => ?_)
  repeat (first|(apply w1;apply rfl;apply rfl)|(apply w2;apply rfl)|(apply w3;apply rfl;apply rfl)|apply w4|apply w5|apply w6|apply w7|(apply w8;apply rfl)|(apply w9;apply rfl)|apply wa|apply wd|apply we|apply wb|apply wc|apply wf|apply wg|apply wh|(apply wi;apply rfl)|apply wj|apply wk|apply wl|apply wm|apply wn)
  refine aw_cond rfl (fun h => ?_) (fun h => ?_)
  · have := hb h
    subst this
    repeat (first|(apply w1;apply rfl;apply rfl)|(apply w2;apply rfl)|(apply w3;apply rfl;apply rfl)|apply w4|apply w5|apply w6|apply w7|(apply w8;apply rfl)|(apply w9;apply rfl)|apply wa|apply wd|apply we|apply wb|apply wc|apply wf|apply wg|apply wh|(apply wi;apply rfl)|apply wj|apply wk|apply wl|apply wm|apply wn)
    exact rt1 rfl rfl (.sl _ _) (AHeap.sub_refl _) hK
  · repeat (first|(apply w1;apply rfl;apply rfl)|(apply w2;apply rfl)|(apply w3;apply rfl;apply rfl)|apply w4|apply w5|apply w6|apply w7|(apply w8;apply rfl)|(apply w9;apply rfl)|apply wa|apply wd|apply we|apply wb|apply wc|apply wf|apply wg|apply wh|(apply wi;apply rfl)|apply wj|apply wk|apply wl|apply wm|apply wn)
    refine s_bslice tk rfl rfl rfl rfl rfl rfl (uni_nil _) (by decide) ?_
    repeat (first|(apply w1;apply rfl;apply rfl)|(apply w2;apply rfl)|(apply w3;apply rfl;apply rfl)|apply w4|apply w5|apply w6|apply w7|(apply w8;apply rfl)|(apply w9;apply rfl)|apply wa|apply wd|apply we|apply wb|apply wc|apply wf|apply wg|apply wh|(apply wi;apply rfl)|apply wj|apply wk|apply wl|apply wm|apply wn)
    refine s_append tk rfl rfl rfl rfl rfl (uni_nil _) hu hf trivial trivial (by simpa using hl) (fun o' h1 h2 => ?_)
    repeat (first|(apply w1;apply rfl;apply rfl)|(apply w2;apply rfl)|(apply w3;apply rfl;apply rfl)|apply w4|apply w5|apply w6|apply w7|(apply w8;apply rfl)|(apply w9;apply rfl)|apply wa|apply wd|apply we|apply wb|apply wc|apply wf|apply wg|apply wh|(apply wi;apply rfl)|apply wj|apply wk|apply wl|apply wm|apply wn)
    exact rt1 rfl rfl (.sl _ _) (sub_free h1 rfl) hK
end Abs
end Go.Proofs.Ytmokoofibnoojaa
