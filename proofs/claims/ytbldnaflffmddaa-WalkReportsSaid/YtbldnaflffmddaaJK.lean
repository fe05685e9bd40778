import Derived.Test.YtbldnaflffmddaaJH
set_option linter.unusedVariables false
namespace Go.Proofs.Ytbldnaflffmddaa
namespace Abs

/-! ### package walk: what a command tells -/
structure Dg where
  path : ByteArray
  err : Int
def encDg (d : Dg) : List AVal := [.s d.path, .i d.err]
def encDgs (l : List Dg) : List (List AVal) := l.map encDg
theorem dgs_len (l : List Dg) : (encDgs l).length = l.length := by simp [encDgs]
theorem dgs_uni (l : List Dg) : Uni 2 (encDgs l) := fun x hx => by
  obtain ⟨e, _, rfl⟩ := List.mem_map.1 hx; rfl
theorem dgs_uni1 (d : Dg) : Uni 2 [encDg d] := fun x hx => by
  rw [List.mem_singleton.1 hx]; rfl
theorem dgs_app (l : List Dg) (d : Dg) : encDgs l ++ [encDg d] = encDgs (l ++ [d]) := by simp [encDgs]
theorem dgs_get (l : List Dg) (k : Nat) (h : k < l.length) : (encDgs l)[(k : Int).toNat]? = some (encDg l[k]) := by simp [encDgs, h]
theorem flat_dgs (l : List Dg) : flatA (encDgs l).flatten = true := by
  simp only [flatA, List.all_eq_true]
  intro x hx
  obtain ⟨y, hy, hxy⟩ := List.mem_flatten.1 hx
  obtain ⟨e, _, rfl⟩ := List.mem_map.1 hy
  simp only [encDg, List.mem_cons, List.not_mem_nil, or_false] at hxy
  rcases hxy with rfl | rfl <;> rfl
theorem flat_strsW (l : List ByteArray) : flatA (encStrs l).flatten = true := by
  simp only [flatA, List.all_eq_true]
  intro x hx
  obtain ⟨y, hy, hxy⟩ := List.mem_flatten.1 hx
  obtain ⟨e, _, rfl⟩ := List.mem_map.1 hy
  simp only [List.mem_cons, List.not_mem_nil, or_false] at hxy
  subst hxy; rfl
structure RpSt (X Y : AHeap) (b : Nat) (ds ls : List (List AVal)) (o1 o2 : Own) : Prop where
  st : Own2 X Y o1 o2
  cell : Y b = some (.cells [.sl ds o1, .sl ls o2])
  ne1 : tokB o1 ≠ some b
  ne2 : tokB o2 ≠ some b
  new : X b = none
theorem RpSt.first {X : AHeap} {b : Nat} (h : X b = none) : RpSt X (X.put b (.cells [.sl [] .full, .sl [] .full])) b [] [] .full .full :=
  ⟨⟨trivial, trivial, (by intro b e; cases e), fun x hx => ⟨put_ne (fun e => hx (by rw [e]; exact h)), (by intro e; cases e), (by intro e; cases e)⟩⟩, put_same _ _ _, (by intro e; cases e), (by intro e; cases e), h⟩
theorem RpSt.cell1 {X Y : AHeap} {b : Nat} {ds ls : List (List AVal)} {o1 o2 o' : Own} (h : RpSt X Y b ds ls o1 o2) (ha : Apart (Y.free o1) o') : ((Y.free o1).own o') b = some (.cells [.sl ds o1, .sl ls o2]) := by
  rw [free_own_get h.ne1 (apart_ne ha h.cell h.ne1)]; exact h.cell
theorem RpSt.cell2 {X Y : AHeap} {b : Nat} {ds ls : List (List AVal)} {o1 o2 o' : Own} (h : RpSt X Y b ds ls o1 o2) (ha : Apart (Y.free o2) o') : ((Y.free o2).own o') b = some (.cells [.sl ds o1, .sl ls o2]) := by
  rw [free_own_get h.ne2 (apart_ne ha h.cell h.ne2)]; exact h.cell
theorem RpSt.step1 {X Y : AHeap} {b : Nat} {ds ls : List (List AVal)} {o1 o2 o' : Own} (h : RpSt X Y b ds ls o1 o2) (ha : Apart (Y.free o1) o') (ds' : List (List AVal)) : RpSt X (((Y.free o1).own o').put b (.cells [.sl ds' o', .sl ls o2])) b ds' ls o' o2 := by
  have h1 := apart_ne ha h.cell h.ne1
  have h2 := h.st.step ha
  refine ⟨⟨owned_get h2.own1 (fun x hx => put_ne (fun e => h1 (by rw [hx, e]))), owned_get h2.own2 (fun x hx => put_ne (fun e => h.ne2 (by rw [hx, e]))), h2.ne, fun x hx => ?_⟩, put_same _ _ _, h1, h.ne2, h.new⟩
  have hxb : x ≠ b := fun e => hx (by rw [e]; exact h.new)
  rw [put_ne hxb]
  exact h2.old x hx
theorem RpSt.step2 {X Y : AHeap} {b : Nat} {ds ls : List (List AVal)} {o1 o2 o' : Own} (h : RpSt X Y b ds ls o1 o2) (ha : Apart (Y.free o2) o') (ls' : List (List AVal)) : RpSt X (((Y.free o2).own o').put b (.cells [.sl ds o1, .sl ls' o'])) b ds ls' o1 o' := by
  have h1 := apart_ne ha h.cell h.ne2
  have h2 := (h.st.swap.step ha).swap
  refine ⟨⟨owned_get h2.own1 (fun x hx => put_ne (fun e => h.ne1 (by rw [hx, e]))), owned_get h2.own2 (fun x hx => put_ne (fun e => h1 (by rw [hx, e]))), h2.ne, fun x hx => ?_⟩, put_same _ _ _, h.ne1, h1, h.new⟩
  have hxb : x ≠ b := fun e => hx (by rw [e]; exact h.new)
  rw [put_ne hxb]
  exact h2.old x hx
end Abs
end Go.Proofs.Ytbldnaflffmddaa

set_option linter.unusedVariables false
namespace Go.Proofs.Ytbldnaflffmddaa
namespace Abs
set_option linter.unusedSimpArgs false
set_option maxRecDepth 10000
set_option maxHeartbeats 2000000
attribute [local irreducible] AOps AW AP ACalls thenQ inBlk noGoto

theorem fail_c {X Y : AHeap} {b : Nat} {ds : List Dg} {ls : List (List AVal)} {o1 o2 : Own} (hm : RpSt X Y b (encDgs ds) ls o1 o2) (he1 : ownEs 2 o1) (hl : ds.length ≤ 100000) {p : ByteArray} {e : Int} {K : AVal → AHeap → Prop}
    (hK : ∀ Z o', RpSt X Z b (encDgs (ds ++ [⟨p, e⟩])) ls o' o2 → ownEs 2 o' → K (.tup []) Z) : ACalls Try.prog 22 [.ptr b 0, .s p, .i e] Y K := by
  refine acalls_body Try.func22 rfl rfl rfl ?_
  have hc := hm.cell
  repeat first|(apply gO;first|(apply x1;apply r0;apply r0)|(apply x2;apply r0;(with_reducible repeat exact q1 ‹_›);apply r0)|(apply xbd;apply r0)|(apply xbs;apply r0)|apply w4)|(apply gW;first|apply w6|apply w7|(apply w8;apply r0))|apply w5
  refine s_append (xs := encDgs ds) (ys := [encDg ⟨p, e⟩]) tk rfl rfl rfl rfl rfl (dgs_uni _) (dgs_uni1 _) rfl hm.st.own1 he1 (by rw [dgs_len]; simp only [List.length_cons, List.length_nil]; omega) (fun p1 ha he1' => ?_)
  have hc2 := hm.cell1 ha
  rw [dgs_app]
  repeat first|(apply x1;apply r0;apply r0)|(apply xst;apply r0;(with_reducible assumption);apply r0)|apply w4
  exact rt0n rfl (AHeap.sub_refl _) (hK _ p1 (hm.step1 ha _) he1')
theorem fail_nil {p : ByteArray} {e : Int} {H : AHeap} {K : AVal → AHeap → Prop} (hK : K (.tup []) H) : ACalls Try.prog 22 [.nilp, .s p, .i e] H K := by
  refine acalls_body Try.func22 rfl rfl rfl ?_
  repeat first|(apply x1;apply r0;apply r0)|apply w4|apply w6|apply w7|(apply w9;apply r0)|apply wa|apply w5
  exact rt0n rfl (AHeap.sub_refl _) hK
theorem print_c {X Y : AHeap} {b : Nat} {ds : List (List AVal)} {ls : List ByteArray} {o1 o2 : Own} (hm : RpSt X Y b ds (encStrs ls) o1 o2) (he2 : ownEs 1 o2) (hl : ls.length ≤ 100000) {p : ByteArray} {K : AVal → AHeap → Prop}
    (hK : ∀ Z o', RpSt X Z b ds (encStrs (ls ++ [p])) o1 o' → ownEs 1 o' → K (.tup []) Z) : ACalls Try.prog 23 [.ptr b 0, .s p] Y K := by
  refine acalls_body Try.func23 rfl rfl rfl ?_
  have hc := hm.cell
  repeat first|(apply gO;first|(apply x1;apply r0;apply r0)|(apply x2;apply r0;(with_reducible repeat exact q1 ‹_›);apply r0)|(apply xbs;apply r0)|apply w4)|(apply gW;first|apply w6|apply w7|(apply w8;apply r0))|apply w5
  refine s_append (xs := encStrs ls) (ys := [[.s p]]) tk rfl rfl rfl rfl rfl (uni_strs _) (uni_one1 _) rfl hm.st.own2 he2 (by rw [strs_len]; simp only [List.length_cons, List.length_nil]; omega) (fun p1 ha he1' => ?_)
  have hc2 := hm.cell2 ha
  rw [strs_app]
  repeat first|(apply x1;apply r0;apply r0)|(apply xst;apply r0;(with_reducible assumption);apply r0)|apply w4
  exact rt0n rfl (AHeap.sub_refl _) (hK _ p1 (hm.step2 ha _) he1')
theorem print_nil {p : ByteArray} {H : AHeap} {K : AVal → AHeap → Prop} (hK : K (.tup []) H) : ACalls Try.prog 23 [.nilp, .s p] H K := by
  refine acalls_body Try.func23 rfl rfl rfl ?_
  repeat first|(apply x1;apply r0;apply r0)|apply w4|apply w6|apply w7|(apply w9;apply r0)|apply wa|apply w5
  exact rt0n rfl (AHeap.sub_refl _) hK
end Abs
end Go.Proofs.Ytbldnaflffmddaa
