import Derived.Test.YtkopeigfjjbajaaT1
import Derived.Test.YtkopeigfjjbajaaA10
set_option linter.unusedVariables false
namespace Go.Proofs.Ytkopeigfjjbajaa
namespace Abs
set_option maxRecDepth 10000
attribute [local irreducible] AOps AW AP ACalls thenQ inBlk noGoto

/-! ### node.Same -/
instance : DecidableEq Ent := fun a b => decidable_of_iff (a.name = b.name ∧ a.node = b.node) ⟨fun h => by cases a; cases b; simp_all, fun h => by subst h; exact ⟨rfl, rfl⟩⟩
def Node.same (a b : Node) : Bool := decide (a.kind = b.kind) && decide (a.mode = b.mode) && decide (a.uid = b.uid) && decide (a.gid = b.gid) && decide (a.target = b.target) && decide (a.data = b.data) && decide (a.ents = b.ents)
end Abs
end Go.Proofs.Ytkopeigfjjbajaa

set_option linter.unusedVariables false
namespace Go.Proofs.Ytkopeigfjjbajaa
namespace Abs
set_option maxRecDepth 10000
attribute [local irreducible] AOps AW AP ACalls thenQ inBlk noGoto

def Tab.sameTo (T U : Tab) : Nat → Bool
  | 0 => true
  | k + 1 => T.sameTo U k && (T.nd k).same (U.nd k)
def Tab.same (T U : Tab) : Bool := T.sameTo U 24
theorem flat_nodes (l : List Node) : flatA (l.map encNode).flatten = true := by
  simp only [flatA, List.all_eq_true]
  intro x hx
  obtain ⟨y, hy, hxy⟩ := List.mem_flatten.1 hx
  obtain ⟨n, _, rfl⟩ := List.mem_map.1 hy
  have := flat_node n
  simp only [flatA, List.all_eq_true] at this
  exact this x hxy
theorem flat_tab (T : Tab) : flatA (encTab T) = true := by
  have := flat_nodes T.nodes
  simp only [flatA, encTab, List.all_cons, Bool.and_eq_true] at this ⊢
  exact ⟨rfl, this⟩
theorem put_self (T : Tab) (k : Nat) (h : k < T.nodes.length) : T.put k T.nodes[k] = T := by
  cases T
  simp [Tab.put]
theorem clone_c {t : Nat} {T : Tab} (hw : T.wf) {H : AHeap} (hT : Rd H t (encTab T)) {K : AVal → AHeap → Prop} (hK : ∀ u, H u = none → K (.ptr u 0) (H.put u (.cells (encTab T)))) : ACalls Try.prog 9 [.ptr t 0] H K := by
  refine acalls_body Try.func9 rfl rfl rfl ?_
  have hlen := encTab_len T hw.1
  repeat (first|(apply w1;apply rfl;apply rfl)|apply w4|apply w5|apply w6|apply w7|(apply w9;apply rfl)|apply wa)
  refine s_loadw tk rfl rfl hT rfl hlen ?_
  skip
  refine s_alloc tk rfl rfl rfl (fun u hu => ?_)
  skip
  refine s_storew tk rfl rfl (put_same _ _ _) rfl hlen rfl (flat_tab T) ?_
  rw [put_put]
  repeat (first|(apply w1;apply rfl;apply rfl)|apply w4|apply w5|apply w6|apply w7|apply wb)
  refine aw_loop (fun k : Nat => k ≤ 24) (fun k => [(3, .ptr u 0), (10, .i k)]) (fun _ => H.put u (.cells (encTab T))) (fun k => 24 - k) 0 (by omega) (Fr.sub_cons rfl (Fr.sub_cons rfl (Fr.sub_nil _))) (AHeap.sub_refl _) ?_
  intro k hk
  repeat (first|(apply w1;apply rfl;apply rfl)|apply w4|apply w5|apply w6|apply w7)
  refine aw_cond rfl (fun c => ?_) (fun c => ?_)
  · have c' : k < 24 := by have := of_decide_eq_true c; omega
    have hkl : k < T.nodes.length := by have := hw.1; omega
    repeat (first|(apply w1;apply rfl;apply rfl)|apply w4|apply w5|apply w6|apply w7|apply wa|apply wb)
    refine s_indexa tk rfl rfl rfl rfl rfl (by omega) (by omega) ?_
    skip
    refine s_loada (ds := encNode T.nodes[k]) tk rfl rfl (.inl (put_same _ _ _)) rfl (by rw [hlen]; omega) (by
      have := encTab_agg T k
      rw [List.getElem?_eq_getElem hkl] at this
      exact this) ?_
    skip
    refine s_call rfl rfl fk19 ?_
    refine own_c (hw.2.2 _ (List.getElem_mem hkl)) ?_
    repeat ((apply w1;apply rfl;apply rfl))
    refine s_indexa tk rfl rfl rfl rfl rfl (by omega) (by omega) ?_
    skip
    refine s_storea tk rfl rfl (put_same _ _ _) rfl rfl (by rw [hlen]; omega) rfl (encTab_put T k _ hkl) ?_
    rw [put_put, put_self T k hkl]
    repeat (first|apply w4|apply w5|apply w7|apply wg)
    refine s_add rfl rfl rfl (by omega) ?_
    repeat (first|(apply w1;apply rfl;apply rfl)|apply w4|apply w5)
    exact ⟨k + 1, c', by omega, Fr.sub_cons rfl (Fr.sub_cons rfl (Fr.sub_nil _)), AHeap.sub_refl _⟩
  · repeat (first|(apply w1;apply rfl;apply rfl)|apply w4|apply w5|apply w6|apply w7|apply wd|apply wc|apply wf|apply wh)
    exact rt1 rfl rfl (.refl _) (AHeap.sub_refl _) (hK u hu)
end Abs
end Go.Proofs.Ytkopeigfjjbajaa

set_option linter.unusedVariables false
namespace Go.Proofs.Ytkopeigfjjbajaa
namespace Abs
set_option maxRecDepth 10000
attribute [local irreducible] AOps AW AP ACalls thenQ inBlk noGoto

def encInts (l : List Int) : List (List AVal) := l.map fun n => [.i n]
theorem ints_len (l : List Int) : (encInts l).length = l.length := by simp [encInts]
def Tab.rooted (T : Tab) : Nat → Int → Bool
  | 0, _ => false
  | n + 1, i => if i = 1 then true else T.rooted n (T.parent i)
end Abs
end Go.Proofs.Ytkopeigfjjbajaa

set_option linter.unusedVariables false
namespace Go.Proofs.Ytkopeigfjjbajaa
namespace Abs
set_option maxRecDepth 10000
attribute [local irreducible] AOps AW AP ACalls thenQ inBlk noGoto

/-! ### no table -/
end Abs
end Go.Proofs.Ytkopeigfjjbajaa
