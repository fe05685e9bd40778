import Derived.Test.YtpifnlodilcgkaaT1
import Derived.Test.YtpifnlodilcgkaaA10
set_option linter.unusedVariables false
namespace Go.Proofs.Ytpifnlodilcgkaa
namespace Abs
set_option maxRecDepth 10000
attribute [local irreducible] AOps AW AP ACalls thenQ inBlk noGoto

/-! ### node.Same -/
instance : DecidableEq Ent := fun a b => decidable_of_iff (a.name = b.name ∧ a.node = b.node) ⟨fun h => by cases a; cases b; simp_all, fun h => by subst h; exact ⟨rfl, rfl⟩⟩
def Node.same (a b : Node) : Bool := decide (a.kind = b.kind) && decide (a.mode = b.mode) && decide (a.uid = b.uid) && decide (a.gid = b.gid) && decide (a.target = b.target) && decide (a.data = b.data) && decide (a.ents = b.ents)
end Abs
end Go.Proofs.Ytpifnlodilcgkaa

set_option linter.unusedVariables false
namespace Go.Proofs.Ytpifnlodilcgkaa
namespace Abs
set_option maxRecDepth 10000
attribute [local irreducible] AOps AW AP ACalls thenQ inBlk noGoto

def Tab.sameTo (T U : Tab) : Nat → Bool
  | 0 => true
  | k + 1 => T.sameTo U k && (T.nd k).same (U.nd k)
def Tab.same (T U : Tab) : Bool := T.sameTo U 24
end Abs
end Go.Proofs.Ytpifnlodilcgkaa

set_option linter.unusedVariables false
namespace Go.Proofs.Ytpifnlodilcgkaa
namespace Abs
set_option maxRecDepth 10000
attribute [local irreducible] AOps AW AP ACalls thenQ inBlk noGoto

def encInts (l : List Int) : List (List AVal) := l.map fun n => [.i n]
theorem ints_len (l : List Int) : (encInts l).length = l.length := by simp [encInts]
theorem index_c {l : List Int} {o : Own} {n : Int} {H : AHeap} {K : AVal → AHeap → Prop} (hl : l.length ≤ 9223372036854775807) (hK : ∀ r : Int, decide (0 ≤ r) = l.contains n → K (.i r) H) : ACalls Try.prog 62 [.sl (encInts l) o, .i n] H K := by
  refine acalls_body Try.func62 rfl rfl rfl ?_
  have ll := ints_len l
  repeat (first|(apply w1;apply rfl;apply rfl)|apply w4|apply w5|apply w6|apply w7|apply wb)
  refine aw_loop (fun k : Nat => k ≤ l.length ∧ ∀ j (h : j < l.length), j < k → l[j] ≠ n) (fun k => [(0, .sl (encInts l) o), (1, .i n), (7, .i (encInts l).length), (8, .i k)]) (fun _ => H) (fun k => l.length - k) 0 ⟨Nat.zero_le _, fun j _ h => absurd h (Nat.not_lt_zero _)⟩
    (Fr.sub_cons rfl (Fr.sub_cons rfl (Fr.sub_cons rfl (Fr.sub_cons rfl (Fr.sub_nil _))))) (AHeap.sub_refl _) ?_
  intro k ⟨hk, hall⟩
  repeat (first|(apply w1;apply rfl;apply rfl)|apply w4|apply w5|apply w6|apply w7)
  refine aw_cond rfl (fun g => ?_) (fun g => ?_)
  · have g' : k < l.length := by have := of_decide_eq_true g; omega
    repeat (first|(apply w1;apply rfl;apply rfl)|apply w4|apply w5|apply w6|apply w7|apply wa|apply wb)
    refine s_index tk rfl rfl rfl rfl (by omega) (show (encInts l)[(k : Int).toNat]? = some [.i l[k]] by simp [encInts, g']) rfl ?_
    repeat (first|(apply w1;apply rfl;apply rfl)|apply w4|apply w5|(apply s_ept tk;apply rfl;apply rfl;apply rfl;apply rfl))
    refine aw_cond rfl (fun e => ?_) (fun e => ?_)
    · have he : n = l[k] := of_decide_eq_true e
      repeat (first|(apply w1;apply rfl;apply rfl)|apply w4|apply w5|apply w6|apply w7|apply wd|apply we|apply wj)
      refine rt1 rfl rfl (.refl _) (AHeap.sub_refl _) (hK _ ?_)
      rw [decide_eq_true (show (0 : Int) ≤ k by omega)]
      symm
      rw [List.contains_iff_mem, he]
      exact List.getElem_mem _
    · have he : ¬ n = l[k] := of_decide_eq_false e
      repeat (first|apply w5|apply w7|apply wa|apply wg)
      refine s_add rfl rfl rfl (by omega) ?_
      repeat (first|(apply w1;apply rfl;apply rfl)|apply w4|apply w5)
      refine ⟨k + 1, ⟨g', fun j hj hjk => ?_⟩, by omega, Fr.sub_cons rfl (Fr.sub_cons rfl (Fr.sub_cons rfl (Fr.sub_cons rfl (Fr.sub_nil _)))), AHeap.sub_refl _⟩
      rcases Nat.lt_or_ge j k with h | h
      · exact hall j hj h
      · have : j = k := by omega
        subst this; exact fun e => he e.symm
  · have hke : k = l.length := by have := of_decide_eq_false g; omega
    subst hke
    repeat (first|(apply w1;apply rfl;apply rfl)|apply w4|apply w5|apply w6|apply w7|apply wd|apply wc|apply wf|apply wh)
    refine rt1 rfl rfl (.refl _) (AHeap.sub_refl _) (hK _ ?_)
    rw [decide_eq_false (show ¬ (0 : Int) ≤ -1 by decide)]
    symm
    refine Bool.eq_false_iff.2 fun h => ?_
    rw [List.contains_iff_mem] at h
    obtain ⟨j, hj, e⟩ := List.getElem_of_mem h
    exact hall j hj hj e
theorem contains_c {l : List Int} {o : Own} {n : Int} {H : AHeap} {K : AVal → AHeap → Prop} (hl : l.length ≤ 9223372036854775807) (hK : K (.b (l.contains n)) H) : ACalls Try.prog 71 [.sl (encInts l) o, .i n] H K := by
  refine acalls_body Try.func71 rfl rfl rfl ?_
  repeat (first|(apply w1;apply rfl;apply rfl)|apply w4|apply w5|apply w6|apply w7)
  refine s_call rfl rfl fk62 ?_
  refine index_c hl (fun r hr => ?_)
  rw [← hr] at hK
  repeat (first|(apply w1;apply rfl;apply rfl)|apply w4|apply w5|apply wd)
  exact rt1 rfl rfl (.refl _) (AHeap.sub_refl _) hK

def Tab.rooted (T : Tab) : Nat → Int → Bool
  | 0, _ => false
  | n + 1, i => if i = 1 then true else T.rooted n (T.parent i)
theorem rooted_c {t : Nat} {T : Tab} (hw : T.wf) {i : Int} {H : AHeap} (hT : Rd H t (encTab T)) {K : AVal → AHeap → Prop} (hK : K (.b (T.rooted 24 i)) H) : ACalls Try.prog 70 [.ptr t 0, .i i] H K := by
  refine acalls_body Try.func70 rfl rfl rfl ?_
  repeat (first|(apply w1;apply rfl;apply rfl)|(apply w2;apply rfl)|(apply w3;apply rfl;apply rfl)|apply w4|apply w5|apply w6|apply w7|(apply w8;apply rfl)|(apply w9;apply rfl)|apply wa|apply wd|apply we|apply wb|apply wc|apply wf|apply wg|apply wh|(apply wi;apply rfl)|apply wj|apply wk|apply wl|apply wm|apply wn)
  refine aw_loop (fun s : Nat × Int => s.1 ≤ 24 ∧ T.rooted 24 i = T.rooted (24 - s.1) s.2) (fun s => [(0, .ptr t 0), (1, .i s.2), (5, .i s.1)]) (fun _ => H) (fun s => 24 - s.1) (0, i) ⟨by omega, rfl⟩ (Fr.sub_cons rfl (Fr.sub_cons rfl (Fr.sub_cons rfl (Fr.sub_nil _)))) (AHeap.sub_refl _) ?_
  rintro ⟨k, x⟩ ⟨hk, hr⟩
  simp only at hk hr
  repeat (first|(apply w1;apply rfl;apply rfl)|(apply w2;apply rfl)|(apply w3;apply rfl;apply rfl)|apply w4|apply w5|apply w6|apply w7|(apply w8;apply rfl)|(apply w9;apply rfl)|apply wa|apply wd|apply we|apply wb|apply wc|apply wf|apply wg|apply wh|(apply wi;apply rfl)|apply wj|apply wk|apply wl|apply wm|apply wn)
  refine aw_cond rfl (fun c => ?_) (fun c => ?_)
  · have c' : k < 24 := by have := of_decide_eq_true c; omega
    have hst : T.rooted (24 - k) x = if x = 1 then true else T.rooted (24 - (k + 1)) (T.parent x) := by
      rw [show 24 - k = (24 - (k + 1)) + 1 by omega]; rfl
    repeat (first|(apply w1;apply rfl;apply rfl)|(apply w2;apply rfl)|(apply w3;apply rfl;apply rfl)|apply w4|apply w5|apply w6|apply w7|(apply w8;apply rfl)|(apply w9;apply rfl)|apply wa|apply wd|apply we|apply wb|apply wc|apply wf|apply wg|apply wh|(apply wi;apply rfl)|apply wj|apply wk|apply wl|apply wm|apply wn)
    refine aw_cond rfl (fun e => ?_) (fun e => ?_)
    · rw [hr, hst, if_pos (of_decide_eq_true e)] at hK
      repeat (first|(apply w1;apply rfl;apply rfl)|(apply w2;apply rfl)|(apply w3;apply rfl;apply rfl)|apply w4|apply w5|apply w6|apply w7|(apply w8;apply rfl)|(apply w9;apply rfl)|apply wa|apply wd|apply we|apply wb|apply wc|apply wf|apply wg|apply wh|(apply wi;apply rfl)|apply wj|apply wk|apply wl|apply wm|apply wn)
      exact rt1 rfl rfl (.refl _) (AHeap.sub_refl _) hK
    · rw [if_neg (of_decide_eq_false e)] at hst
      repeat (first|(apply w1;apply rfl;apply rfl)|(apply w2;apply rfl)|(apply w3;apply rfl;apply rfl)|apply w4|apply w5|apply w6|apply w7|(apply w8;apply rfl)|(apply w9;apply rfl)|apply wa|apply wd|apply we|apply wb|apply wc|apply wf|apply wg|apply wh|(apply wi;apply rfl)|apply wj|apply wk|apply wl|apply wm|apply wn)
      refine s_call rfl rfl fk78 ?_
      refine parent_c hw hT ?_
      repeat (first|(apply w1;apply rfl;apply rfl)|(apply w2;apply rfl)|(apply w3;apply rfl;apply rfl)|apply w4|apply w5|apply w6|apply w7|(apply w8;apply rfl)|(apply w9;apply rfl)|apply wa|apply wd|apply we|apply wb|apply wc|apply wf|apply wg|apply wh|(apply wi;apply rfl)|apply wj|apply wk|apply wl|apply wm|apply wn)
      refine s_add rfl rfl rfl (by omega) ?_
      repeat (first|(apply w1;apply rfl;apply rfl)|(apply w2;apply rfl)|(apply w3;apply rfl;apply rfl)|apply w4|apply w5|apply w6|apply w7|(apply w8;apply rfl)|(apply w9;apply rfl)|apply wa|apply wd|apply we|apply wb|apply wc|apply wf|apply wg|apply wh|(apply wi;apply rfl)|apply wj|apply wk|apply wl|apply wm|apply wn)
      exact ⟨(k + 1, T.parent x), ⟨c', by rw [hr, hst]⟩, by simp only; omega, Fr.sub_cons rfl (Fr.sub_cons rfl (Fr.sub_cons rfl (Fr.sub_nil _))), AHeap.sub_refl _⟩
  · have : k = 24 := by have := of_decide_eq_false c; omega
    subst this
    rw [hr] at hK
    repeat (first|(apply w1;apply rfl;apply rfl)|(apply w2;apply rfl)|(apply w3;apply rfl;apply rfl)|apply w4|apply w5|apply w6|apply w7|(apply w8;apply rfl)|(apply w9;apply rfl)|apply wa|apply wd|apply we|apply wb|apply wc|apply wf|apply wg|apply wh|(apply wi;apply rfl)|apply wj|apply wk|apply wl|apply wm|apply wn)
    exact rt1 rfl rfl (.refl _) (AHeap.sub_refl _) hK

def Tab.rightStep (T : Tab) (op : List Int) (k : Nat) (r : Bool) : Bool :=
  (r && (T.get (k + 1)).ents.all fun e => T.has e.node) &&
    (if (k : Int) + 1 = 1 then true else if (T.get (k + 1)).kind = 2 then decide (T.links (k + 1) = 1) && T.rooted 24 (k + 1) else decide (T.links (k + 1) > 0) || op.contains ((k : Int) + 1))
def Tab.rightTo (T : Tab) (op : List Int) (r0 : Bool) : Nat → Bool
  | 0 => r0
  | k + 1 => if T.has (k + 1) then T.rightStep op k (T.rightTo op r0 k) else T.rightTo op r0 k
def Tab.right (T : Tab) (op : List Int) : Bool := T.rightTo op (T.has 1 && decide ((T.get 1).kind = 2) && decide (T.links 1 = 0)) T.room.toNat

set_option maxHeartbeats 1000000 in
theorem right1_c {t : Nat} {T : Tab} (hw : T.wf) {b6 b2 b3 : Nat} {op : List Int} {o : Own} (hop : op.length ≤ 9223372036854775807) {k : Nat} (hh : T.has (k + 1) = true) {r : Bool} {H : AHeap}
    (hT : Rd H t (encTab T)) (h6 : H b6 = some (.cells [.b r])) (h2 : Rd H b2 [.ptr t 0]) (h3 : Rd H b3 [.sl (encInts op) o]) (n2 : b2 ≠ b6) (n3 : b3 ≠ b6) (nt : t ≠ b6)
    {K : AVal → AHeap → Prop} (hK : ∀ v, K v (H.put b6 (.cells [.b (T.rightStep op k r)]))) : ACalls Try.prog 69 [.i (k + 1), .ptr t (1 + k * 7), .ptr b6 0, .ptr b2 0, .ptr b3 0] H K := by
  refine acalls_body Try.func69 rfl rfl rfl ?_
  have hlt := (has_lt hw hh).2.2
  have hkl : k < T.nodes.length := by simpa using hlt
  have hsm := (get_small hw (k + 1)).2
  have hcell : (encTab T)[1 + k * 7 + 5]? = some (.sl ((T.get (k + 1)).ents.map encEnt) .no) := by
    rw [encTab_get T k 5 (by omega), List.getElem?_eq_getElem hkl]
    simp [Tab.get, List.getD_eq_getElem?_getD, List.getElem?_eq_getElem hkl, encNode]
  have hkind : (encTab T)[1 + k * 7 + 0]? = some (.i (T.get (k + 1)).kind) := by
    rw [encTab_get T k 0 (by omega), List.getElem?_eq_getElem hkl]
    simp [Tab.get, List.getD_eq_getElem?_getD, List.getElem?_eq_getElem hkl, encNode]
  unfold Tab.rightStep at hK
  generalize hes : (T.get (k + 1)).ents = es at hcell hsm hK
  generalize (T.get (k + 1)).kind = kd at hkind hK
  repeat (first|(apply w1;apply rfl;apply rfl)|(apply w2;apply rfl)|(apply w3;apply rfl;apply rfl)|apply w4|apply w5|apply w6|apply w7|(apply w8;apply rfl)|(apply w9;apply rfl)|apply wa|apply wd|apply we|apply wb|apply wc|apply wf|apply wg|apply wh|(apply wi;apply rfl)|apply wj|apply wk|apply wl|apply wm|apply wn)
  refine s_load tk rfl rfl hT rfl hcell ?_
  repeat (first|(apply w1;apply rfl;apply rfl)|(apply w2;apply rfl)|(apply w3;apply rfl;apply rfl)|apply w4|apply w5|apply w6|apply w7|(apply w8;apply rfl)|(apply w9;apply rfl)|apply wa|apply wd|apply we|apply wb|apply wc|apply wf|apply wg|apply wh|(apply wi;apply rfl)|apply wj|apply wk|apply wl|apply wm|apply wn)
  have el := ents_len es
  refine aw_loop (fun j : Nat => j ≤ es.length) (fun j => [(0, .i ((k : Int) + 1)), (1, .ptr t (1 + k * 7)), (2, .ptr b6 0), (3, .ptr b2 0), (4, .ptr b3 0), (13, .sl (es.map encEnt) .no), (14, .i (es.map encEnt).length), (15, .i j)])
    (fun j => H.put b6 (.cells [.b (r && (es.take j).all fun e => T.has e.node)])) (fun j => es.length - j) 0 (Nat.zero_le _) (Fr.sub_cons rfl (Fr.sub_cons rfl (Fr.sub_cons rfl (Fr.sub_cons rfl (Fr.sub_cons rfl (Fr.sub_cons rfl (Fr.sub_cons rfl (Fr.sub_cons rfl (Fr.sub_nil _)))))))))
    (by rw [List.take_zero, List.all_nil, Bool.and_true, put_id h6]; exact AHeap.sub_refl _) ?_
  intro j hj
  have hR2 : ∀ o, Rd (H.put b6 o) b2 [.ptr t 0] := fun o => by unfold Rd; rw [put_ne n2]; exact h2
  have hR3 : ∀ o', Rd (H.put b6 o') b3 [.sl (encInts op) o] := fun o' => by unfold Rd; rw [put_ne n3]; exact h3
  have hRt : ∀ o, Rd (H.put b6 o) t (encTab T) := fun o => by unfold Rd; rw [put_ne nt]; exact hT
  repeat (first|(apply w1;apply rfl;apply rfl)|(apply w2;apply rfl)|(apply w3;apply rfl;apply rfl)|apply w4|apply w5|apply w6|apply w7|(apply w8;apply rfl)|(apply w9;apply rfl)|apply wa|apply wd|apply we|apply wb|apply wc|apply wf|apply wg|apply wh|(apply wi;apply rfl)|apply wj|apply wk|apply wl|apply wm|apply wn)
  refine aw_cond rfl (fun c => ?_) (fun c => ?_)
  · have c' : j < es.length := by have := of_decide_eq_true c; omega
    have hst : (r && (es.take (j + 1)).all fun e => T.has e.node) = ((r && (es.take j).all fun e => T.has e.node) && T.has es[j].node) := by
      rw [List.take_add_one, List.getElem?_eq_getElem c', List.all_append, Bool.and_assoc]
      simp
    generalize hrj : (r && (es.take j).all fun e => T.has e.node) = rj at hst ⊢
    repeat (first|(apply w1;apply rfl;apply rfl)|(apply w2;apply rfl)|(apply w3;apply rfl;apply rfl)|apply w4|apply w5|apply w6|apply w7|(apply w8;apply rfl)|(apply w9;apply rfl)|apply wa|apply wd|apply we|apply wb|apply wc|apply wf|apply wg|apply wh|(apply wi;apply rfl)|apply wj|apply wk|apply wl|apply wm|apply wn)
    refine s_index tk rfl rfl rfl rfl (by omega) (show (es.map encEnt)[(j : Int).toNat]? = some (encEnt es[j]) by simp [c']) rfl ?_
    repeat (first|(apply w1;apply rfl;apply rfl)|(apply w2;apply rfl)|(apply w3;apply rfl;apply rfl)|apply w4|apply w5|apply w6|apply w7|(apply w8;apply rfl)|(apply w9;apply rfl)|apply wa|apply wd|apply we|apply wb|apply wc|apply wf|apply wg|apply wh|(apply wi;apply rfl)|apply wj|apply wk|apply wl|apply wm|apply wn)
    refine s_epta (ds := encEnt es[j]) tk rfl rfl rfl (Nat.le_refl 2) rfl ?_
    repeat (first|(apply w1;apply rfl;apply rfl)|(apply w2;apply rfl)|(apply w3;apply rfl;apply rfl)|apply w4|apply w5|apply w6|apply w7|(apply w8;apply rfl)|(apply w9;apply rfl)|apply wa|apply wd|apply we|apply wb|apply wc|apply wf|apply wg|apply wh|(apply wi;apply rfl)|apply wj|apply wk|apply wl|apply wm|apply wn)
    refine s_alloc tk rfl rfl rfl (fun b8 h8 => ?_)
    obtain ⟨n8, h8'⟩ := put_none h8
    repeat (first|(apply w1;apply rfl;apply rfl)|(apply w2;apply rfl)|(apply w3;apply rfl;apply rfl)|apply w4|apply w5|apply w6|apply w7|(apply w8;apply rfl)|(apply w9;apply rfl)|apply wa|apply wd|apply we|apply wb|apply wc|apply wf|apply wg|apply wh|(apply wi;apply rfl)|apply wj|apply wk|apply wl|apply wm|apply wn)
    refine s_storew tk rfl rfl (put_same _ _ _) rfl rfl rfl rfl ?_
    rw [put_put]
    have hn2 : b2 ≠ b8 := fun e => by rcases h2 with h | h <;> (rw [e, h8'] at h; cases h)
    have hnt : t ≠ b8 := fun e => by rcases hT with h | h <;> (rw [e, h8'] at h; cases h)
    have hg6 : ((H.put b6 (.cells [.b rj])).put b8 (.cells (encEnt es[j]))) b6 = some (.cells [.b rj]) := by rw [put_ne (Ne.symm n8), put_same]
    repeat (first|(apply w1;apply rfl;apply rfl)|(apply w2;apply rfl)|(apply w3;apply rfl;apply rfl)|apply w4|apply w5|apply w6|apply w7|(apply w8;apply rfl)|(apply w9;apply rfl)|apply wa|apply wd|apply we|apply wb|apply wc|apply wf|apply wg|apply wh|(apply wi;apply rfl)|apply wj|apply wk|apply wl|apply wm|apply wn)
    refine s_load tk rfl rfl (.inl hg6) rfl rfl ?_
    repeat (first|(apply w1;apply rfl;apply rfl)|(apply w2;apply rfl)|(apply w3;apply rfl;apply rfl)|apply w4|apply w5|apply w6|apply w7|(apply w8;apply rfl)|(apply w9;apply rfl)|apply wa|apply wd|apply we|apply wb|apply wc|apply wf|apply wg|apply wh|(apply wi;apply rfl)|apply wj|apply wk|apply wl|apply wm|apply wn)
    have hfin : ∀ (x : Bool) {F' : Fr}, x = (rj && T.has es[j].node) → Fr.sub [(0, .i ((k : Int) + 1)), (1, .ptr t (1 + k * 7)), (2, .ptr b6 0), (3, .ptr b2 0), (4, .ptr b3 0), (13, .sl (es.map encEnt) .no), (14, .i (es.map encEnt).length), (15, .i ((j : Int) + 1))] F' →
        ∃ j' : Nat, j' ≤ es.length ∧ es.length - j' < es.length - j ∧ Fr.sub [(0, .i ((k : Int) + 1)), (1, .ptr t (1 + k * 7)), (2, .ptr b6 0), (3, .ptr b2 0), (4, .ptr b3 0), (13, .sl (es.map encEnt) .no), (14, .i (es.map encEnt).length), (15, .i j')] F' ∧
          (H.put b6 (.cells [.b (r && (es.take j').all fun e => T.has e.node)])).sub (((H.put b6 (.cells [.b rj])).put b8 (.cells (encEnt es[j]))).put b6 (.cells [.b x])) := fun x F' hx hF => by
      refine ⟨j + 1, c', by omega, hF, ?_⟩
      rw [hst, ← hx, put_comm (Ne.symm n8), put_put]
      exact sub_new (by rw [put_ne n8]; exact h8') (AHeap.sub_refl _)
    refine s_gsplit rfl rfl (fun e => ?_) (fun e => ?_)
    · subst e
      repeat (first|(apply w1;apply rfl;apply rfl)|(apply w2;apply rfl)|(apply w3;apply rfl;apply rfl)|apply w4|apply w5|apply w6|apply w7|(apply w8;apply rfl)|(apply w9;apply rfl)|apply wa|apply wd|apply we|apply wb|apply wc|apply wf|apply wg|apply wh|(apply wi;apply rfl)|apply wj|apply wk|apply wl|apply wm|apply wn)
      refine s_load tk rfl rfl (by unfold Rd; rw [put_ne hn2]; exact hR2 _) rfl rfl ?_
      repeat (first|(apply w1;apply rfl;apply rfl)|(apply w2;apply rfl)|(apply w3;apply rfl;apply rfl)|apply w4|apply w5|apply w6|apply w7|(apply w8;apply rfl)|(apply w9;apply rfl)|apply wa|apply wd|apply we|apply wb|apply wc|apply wf|apply wg|apply wh|(apply wi;apply rfl)|apply wj|apply wk|apply wl|apply wm|apply wn)
      refine s_load tk rfl rfl (.inl (put_same _ _ _)) rfl rfl ?_
      repeat (first|(apply w1;apply rfl;apply rfl)|(apply w2;apply rfl)|(apply w3;apply rfl;apply rfl)|apply w4|apply w5|apply w6|apply w7|(apply w8;apply rfl)|(apply w9;apply rfl)|apply wa|apply wd|apply we|apply wb|apply wc|apply wf|apply wg|apply wh|(apply wi;apply rfl)|apply wj|apply wk|apply wl|apply wm|apply wn)
      refine s_call rfl rfl fk45 ?_
      refine at_c hw (by unfold Rd; rw [put_ne hnt]; exact hRt _) (fun h1 => ?_) (fun h0 => ?_)
      · repeat (first|(apply w1;apply rfl;apply rfl)|(apply w2;apply rfl)|(apply w3;apply rfl;apply rfl)|apply w4|apply w5|apply w6|apply w7|(apply w8;apply rfl)|(apply w9;apply rfl)|apply wa|apply wd|apply we|apply wb|apply wc|apply wf|apply wg|apply wh|(apply wi;apply rfl)|apply wj|apply wk|apply wl|apply wm|apply wn)
        refine s_store tk rfl rfl hg6 rfl (ltb rfl) rfl ?_
        repeat (first|(apply w1;apply rfl;apply rfl)|(apply w2;apply rfl)|(apply w3;apply rfl;apply rfl)|apply w4|apply w5|apply w6|apply w7|(apply w8;apply rfl)|(apply w9;apply rfl)|apply wa|apply wd|apply we|apply wb|apply wc|apply wf|apply wg|apply wh|(apply wi;apply rfl)|apply wj|apply wk|apply wl|apply wm|apply wn)
        refine s_add rfl rfl rfl (by omega) ?_
        repeat (first|(apply w1;apply rfl;apply rfl)|(apply w2;apply rfl)|(apply w3;apply rfl;apply rfl)|apply w4|apply w5|apply w6|apply w7|(apply w8;apply rfl)|(apply w9;apply rfl)|apply wa|apply wd|apply we|apply wb|apply wc|apply wf|apply wg|apply wh|(apply wi;apply rfl)|apply wj|apply wk|apply wl|apply wm|apply wn)
        exact hfin true (by rw [h1]; rfl) (Fr.sub_cons rfl (Fr.sub_cons rfl (Fr.sub_cons rfl (Fr.sub_cons rfl (Fr.sub_cons rfl (Fr.sub_cons rfl (Fr.sub_cons rfl (Fr.sub_cons rfl (Fr.sub_nil _)))))))))
      · repeat (first|(apply w1;apply rfl;apply rfl)|(apply w2;apply rfl)|(apply w3;apply rfl;apply rfl)|apply w4|apply w5|apply w6|apply w7|(apply w8;apply rfl)|(apply w9;apply rfl)|apply wa|apply wd|apply we|apply wb|apply wc|apply wf|apply wg|apply wh|(apply wi;apply rfl)|apply wj|apply wk|apply wl|apply wm|apply wn)
        refine s_store tk rfl rfl hg6 rfl (ltb rfl) rfl ?_
        repeat (first|(apply w1;apply rfl;apply rfl)|(apply w2;apply rfl)|(apply w3;apply rfl;apply rfl)|apply w4|apply w5|apply w6|apply w7|(apply w8;apply rfl)|(apply w9;apply rfl)|apply wa|apply wd|apply we|apply wb|apply wc|apply wf|apply wg|apply wh|(apply wi;apply rfl)|apply wj|apply wk|apply wl|apply wm|apply wn)
        refine s_add rfl rfl rfl (by omega) ?_
        repeat (first|(apply w1;apply rfl;apply rfl)|(apply w2;apply rfl)|(apply w3;apply rfl;apply rfl)|apply w4|apply w5|apply w6|apply w7|(apply w8;apply rfl)|(apply w9;apply rfl)|apply wa|apply wd|apply we|apply wb|apply wc|apply wf|apply wg|apply wh|(apply wi;apply rfl)|apply wj|apply wk|apply wl|apply wm|apply wn)
        exact hfin false (by rw [h0]; rfl) (Fr.sub_cons rfl (Fr.sub_cons rfl (Fr.sub_cons rfl (Fr.sub_cons rfl (Fr.sub_cons rfl (Fr.sub_cons rfl (Fr.sub_cons rfl (Fr.sub_cons rfl (Fr.sub_nil _)))))))))
    · subst e
      repeat (first|(apply w1;apply rfl;apply rfl)|(apply w2;apply rfl)|(apply w3;apply rfl;apply rfl)|apply w4|apply w5|apply w6|apply w7|(apply w8;apply rfl)|(apply w9;apply rfl)|apply wa|apply wd|apply we|apply wb|apply wc|apply wf|apply wg|apply wh|(apply wi;apply rfl)|apply wj|apply wk|apply wl|apply wm|apply wn)
      refine s_store tk rfl rfl hg6 rfl (ltb rfl) rfl ?_
      repeat (first|(apply w1;apply rfl;apply rfl)|(apply w2;apply rfl)|(apply w3;apply rfl;apply rfl)|apply w4|apply w5|apply w6|apply w7|(apply w8;apply rfl)|(apply w9;apply rfl)|apply wa|apply wd|apply we|apply wb|apply wc|apply wf|apply wg|apply wh|(apply wi;apply rfl)|apply wj|apply wk|apply wl|apply wm|apply wn)
      refine s_add rfl rfl rfl (by omega) ?_
      repeat (first|(apply w1;apply rfl;apply rfl)|(apply w2;apply rfl)|(apply w3;apply rfl;apply rfl)|apply w4|apply w5|apply w6|apply w7|(apply w8;apply rfl)|(apply w9;apply rfl)|apply wa|apply wd|apply we|apply wb|apply wc|apply wf|apply wg|apply wh|(apply wi;apply rfl)|apply wj|apply wk|apply wl|apply wm|apply wn)
      exact hfin false rfl (Fr.sub_cons rfl (Fr.sub_cons rfl (Fr.sub_cons rfl (Fr.sub_cons rfl (Fr.sub_cons rfl (Fr.sub_cons rfl (Fr.sub_cons rfl (Fr.sub_cons rfl (Fr.sub_nil _)))))))))
  · have hje : j = es.length := by have := of_decide_eq_false c; omega
    subst hje
    rw [List.take_length]
    generalize (r && es.all fun e => T.has e.node) = r1 at hK ⊢
    have hg6 : ∀ x, (H.put b6 (.cells [.b x])) b6 = some (.cells [.b x]) := fun x => put_same _ _ _
    repeat (first|(apply w1;apply rfl;apply rfl)|(apply w2;apply rfl)|(apply w3;apply rfl;apply rfl)|apply w4|apply w5|apply w6|apply w7|(apply w8;apply rfl)|(apply w9;apply rfl)|apply wa|apply wd|apply we|apply wb|apply wc|apply wf|apply wg|apply wh|(apply wi;apply rfl)|apply wj|apply wk|apply wl|apply wm|apply wn)
    refine s_load tk rfl rfl (hR2 _) rfl rfl ?_
    repeat (first|(apply w1;apply rfl;apply rfl)|(apply w2;apply rfl)|(apply w3;apply rfl;apply rfl)|apply w4|apply w5|apply w6|apply w7|(apply w8;apply rfl)|(apply w9;apply rfl)|apply wa|apply wd|apply we|apply wb|apply wc|apply wf|apply wg|apply wh|(apply wi;apply rfl)|apply wj|apply wk|apply wl|apply wm|apply wn)
    refine s_call rfl rfl fk34 ?_
    refine links_c hw (hRt _) ?_
    repeat (first|(apply w1;apply rfl;apply rfl)|(apply w2;apply rfl)|(apply w3;apply rfl;apply rfl)|apply w4|apply w5|apply w6|apply w7|(apply w8;apply rfl)|(apply w9;apply rfl)|apply wa|apply wd|apply we|apply wb|apply wc|apply wf|apply wg|apply wh|(apply wi;apply rfl)|apply wj|apply wk|apply wl|apply wm|apply wn)
    refine aw_cond rfl (fun e1 => ?_) (fun e1 => ?_)
    · rw [if_pos (of_decide_eq_true e1), Bool.and_true] at hK
      repeat (first|(apply w1;apply rfl;apply rfl)|(apply w2;apply rfl)|(apply w3;apply rfl;apply rfl)|apply w4|apply w5|apply w6|apply w7|(apply w8;apply rfl)|(apply w9;apply rfl)|apply wa|apply wd|apply we|apply wb|apply wc|apply wf|apply wg|apply wh|(apply wi;apply rfl)|apply wj|apply wk|apply wl|apply wm|apply wn)
      exact rt0n rfl (AHeap.sub_refl _) (hK _)
    rw [if_neg (of_decide_eq_false e1)] at hK
    repeat (first|(apply w1;apply rfl;apply rfl)|(apply w2;apply rfl)|(apply w3;apply rfl;apply rfl)|apply w4|apply w5|apply w6|apply w7|(apply w8;apply rfl)|(apply w9;apply rfl)|apply wa|apply wd|apply we|apply wb|apply wc|apply wf|apply wg|apply wh|(apply wi;apply rfl)|apply wj|apply wk|apply wl|apply wm|apply wn)
    refine s_load tk rfl rfl (hRt _) rfl hkind ?_
    repeat (first|(apply w1;apply rfl;apply rfl)|(apply w2;apply rfl)|(apply w3;apply rfl;apply rfl)|apply w4|apply w5|apply w6|apply w7|(apply w8;apply rfl)|(apply w9;apply rfl)|apply wa|apply wd|apply we|apply wb|apply wc|apply wf|apply wg|apply wh|(apply wi;apply rfl)|apply wj|apply wk|apply wl|apply wm|apply wn)
    refine aw_cond rfl (fun e2 => ?_) (fun e2 => ?_)
    · rw [if_pos (of_decide_eq_true e2)] at hK
      repeat (first|(apply w1;apply rfl;apply rfl)|(apply w2;apply rfl)|(apply w3;apply rfl;apply rfl)|apply w4|apply w5|apply w6|apply w7|(apply w8;apply rfl)|(apply w9;apply rfl)|apply wa|apply wd|apply we|apply wb|apply wc|apply wf|apply wg|apply wh|(apply wi;apply rfl)|apply wj|apply wk|apply wl|apply wm|apply wn)
      refine s_load tk rfl rfl (.inl (put_same _ _ _)) rfl rfl ?_
      repeat (first|(apply w1;apply rfl;apply rfl)|(apply w2;apply rfl)|(apply w3;apply rfl;apply rfl)|apply w4|apply w5|apply w6|apply w7|(apply w8;apply rfl)|(apply w9;apply rfl)|apply wa|apply wd|apply we|apply wb|apply wc|apply wf|apply wg|apply wh|(apply wi;apply rfl)|apply wj|apply wk|apply wl|apply wm|apply wn)
      refine s_gsplit rfl rfl (fun e3 => ?_) (fun e3 => ?_)
      case refine_2 =>
        subst e3
        repeat (first|(apply w1;apply rfl;apply rfl)|(apply w2;apply rfl)|(apply w3;apply rfl;apply rfl)|apply w4|apply w5|apply w6|apply w7|(apply w8;apply rfl)|(apply w9;apply rfl)|apply wa|apply wd|apply we|apply wb|apply wc|apply wf|apply wg|apply wh|(apply wi;apply rfl)|apply wj|apply wk|apply wl|apply wm|apply wn)
        refine s_store tk rfl rfl (put_same _ _ _) rfl (ltb rfl) rfl ?_
        rw [put_put]
        repeat (first|(apply w1;apply rfl;apply rfl)|(apply w2;apply rfl)|(apply w3;apply rfl;apply rfl)|apply w4|apply w5|apply w6|apply w7|(apply w8;apply rfl)|(apply w9;apply rfl)|apply wa|apply wd|apply we|apply wb|apply wc|apply wf|apply wg|apply wh|(apply wi;apply rfl)|apply wj|apply wk|apply wl|apply wm|apply wn)
        exact rt0n rfl (AHeap.sub_refl _) (hK _)
      subst e3
      repeat (first|(apply w1;apply rfl;apply rfl)|(apply w2;apply rfl)|(apply w3;apply rfl;apply rfl)|apply w4|apply w5|apply w6|apply w7|(apply w8;apply rfl)|(apply w9;apply rfl)|apply wa|apply wd|apply we|apply wb|apply wc|apply wf|apply wg|apply wh|(apply wi;apply rfl)|apply wj|apply wk|apply wl|apply wm|apply wn)
      refine s_gsplit rfl rfl (fun e4 => ?_) (fun e4 => ?_)
      case refine_2 =>
        rw [e4] at hK
        repeat (first|(apply w1;apply rfl;apply rfl)|(apply w2;apply rfl)|(apply w3;apply rfl;apply rfl)|apply w4|apply w5|apply w6|apply w7|(apply w8;apply rfl)|(apply w9;apply rfl)|apply wa|apply wd|apply we|apply wb|apply wc|apply wf|apply wg|apply wh|(apply wi;apply rfl)|apply wj|apply wk|apply wl|apply wm|apply wn)
        refine s_store tk rfl rfl (put_same _ _ _) rfl (ltb rfl) rfl ?_
        rw [put_put]
        repeat (first|(apply w1;apply rfl;apply rfl)|(apply w2;apply rfl)|(apply w3;apply rfl;apply rfl)|apply w4|apply w5|apply w6|apply w7|(apply w8;apply rfl)|(apply w9;apply rfl)|apply wa|apply wd|apply we|apply wb|apply wc|apply wf|apply wg|apply wh|(apply wi;apply rfl)|apply wj|apply wk|apply wl|apply wm|apply wn)
        exact rt0n rfl (AHeap.sub_refl _) (hK _)
      rw [e4] at hK
      repeat (first|(apply w1;apply rfl;apply rfl)|(apply w2;apply rfl)|(apply w3;apply rfl;apply rfl)|apply w4|apply w5|apply w6|apply w7|(apply w8;apply rfl)|(apply w9;apply rfl)|apply wa|apply wd|apply we|apply wb|apply wc|apply wf|apply wg|apply wh|(apply wi;apply rfl)|apply wj|apply wk|apply wl|apply wm|apply wn)
      refine s_load tk rfl rfl (hR2 _) rfl rfl ?_
      repeat (first|(apply w1;apply rfl;apply rfl)|(apply w2;apply rfl)|(apply w3;apply rfl;apply rfl)|apply w4|apply w5|apply w6|apply w7|(apply w8;apply rfl)|(apply w9;apply rfl)|apply wa|apply wd|apply we|apply wb|apply wc|apply wf|apply wg|apply wh|(apply wi;apply rfl)|apply wj|apply wk|apply wl|apply wm|apply wn)
      refine s_call rfl rfl fk70 ?_
      refine rooted_c hw (hRt _) ?_
      repeat (first|(apply w1;apply rfl;apply rfl)|(apply w2;apply rfl)|(apply w3;apply rfl;apply rfl)|apply w4|apply w5|apply w6|apply w7|(apply w8;apply rfl)|(apply w9;apply rfl)|apply wa|apply wd|apply we|apply wb|apply wc|apply wf|apply wg|apply wh|(apply wi;apply rfl)|apply wj|apply wk|apply wl|apply wm|apply wn)
      refine s_store tk rfl rfl (put_same _ _ _) rfl (ltb rfl) rfl ?_
      rw [put_put]
      repeat (first|(apply w1;apply rfl;apply rfl)|(apply w2;apply rfl)|(apply w3;apply rfl;apply rfl)|apply w4|apply w5|apply w6|apply w7|(apply w8;apply rfl)|(apply w9;apply rfl)|apply wa|apply wd|apply we|apply wb|apply wc|apply wf|apply wg|apply wh|(apply wi;apply rfl)|apply wj|apply wk|apply wl|apply wm|apply wn)
      exact rt0n rfl (AHeap.sub_refl _) (hK _)
    · rw [if_neg (of_decide_eq_false e2)] at hK
      repeat (first|(apply w1;apply rfl;apply rfl)|(apply w2;apply rfl)|(apply w3;apply rfl;apply rfl)|apply w4|apply w5|apply w6|apply w7|(apply w8;apply rfl)|(apply w9;apply rfl)|apply wa|apply wd|apply we|apply wb|apply wc|apply wf|apply wg|apply wh|(apply wi;apply rfl)|apply wj|apply wk|apply wl|apply wm|apply wn)
      refine s_load tk rfl rfl (.inl (put_same _ _ _)) rfl rfl ?_
      repeat (first|(apply w1;apply rfl;apply rfl)|(apply w2;apply rfl)|(apply w3;apply rfl;apply rfl)|apply w4|apply w5|apply w6|apply w7|(apply w8;apply rfl)|(apply w9;apply rfl)|apply wa|apply wd|apply we|apply wb|apply wc|apply wf|apply wg|apply wh|(apply wi;apply rfl)|apply wj|apply wk|apply wl|apply wm|apply wn)
      refine s_gsplit rfl rfl (fun e3 => ?_) (fun e3 => ?_)
      case refine_2 =>
        subst e3
        repeat (first|(apply w1;apply rfl;apply rfl)|(apply w2;apply rfl)|(apply w3;apply rfl;apply rfl)|apply w4|apply w5|apply w6|apply w7|(apply w8;apply rfl)|(apply w9;apply rfl)|apply wa|apply wd|apply we|apply wb|apply wc|apply wf|apply wg|apply wh|(apply wi;apply rfl)|apply wj|apply wk|apply wl|apply wm|apply wn)
        refine s_store tk rfl rfl (put_same _ _ _) rfl (ltb rfl) rfl ?_
        rw [put_put]
        repeat (first|(apply w1;apply rfl;apply rfl)|(apply w2;apply rfl)|(apply w3;apply rfl;apply rfl)|apply w4|apply w5|apply w6|apply w7|(apply w8;apply rfl)|(apply w9;apply rfl)|apply wa|apply wd|apply we|apply wb|apply wc|apply wf|apply wg|apply wh|(apply wi;apply rfl)|apply wj|apply wk|apply wl|apply wm|apply wn)
        exact rt0n rfl (AHeap.sub_refl _) (hK _)
      subst e3
      repeat (first|(apply w1;apply rfl;apply rfl)|(apply w2;apply rfl)|(apply w3;apply rfl;apply rfl)|apply w4|apply w5|apply w6|apply w7|(apply w8;apply rfl)|(apply w9;apply rfl)|apply wa|apply wd|apply we|apply wb|apply wc|apply wf|apply wg|apply wh|(apply wi;apply rfl)|apply wj|apply wk|apply wl|apply wm|apply wn)
      refine s_gsplit rfl rfl (fun e4 => ?_) (fun e4 => ?_)
      · rw [e4] at hK
        repeat (first|(apply w1;apply rfl;apply rfl)|(apply w2;apply rfl)|(apply w3;apply rfl;apply rfl)|apply w4|apply w5|apply w6|apply w7|(apply w8;apply rfl)|(apply w9;apply rfl)|apply wa|apply wd|apply we|apply wb|apply wc|apply wf|apply wg|apply wh|(apply wi;apply rfl)|apply wj|apply wk|apply wl|apply wm|apply wn)
        refine s_store tk rfl rfl (put_same _ _ _) rfl (ltb rfl) rfl ?_
        rw [put_put]
        repeat (first|(apply w1;apply rfl;apply rfl)|(apply w2;apply rfl)|(apply w3;apply rfl;apply rfl)|apply w4|apply w5|apply w6|apply w7|(apply w8;apply rfl)|(apply w9;apply rfl)|apply wa|apply wd|apply we|apply wb|apply wc|apply wf|apply wg|apply wh|(apply wi;apply rfl)|apply wj|apply wk|apply wl|apply wm|apply wn)
        exact rt0n rfl (AHeap.sub_refl _) (hK _)
      rw [e4] at hK
      repeat (first|(apply w1;apply rfl;apply rfl)|(apply w2;apply rfl)|(apply w3;apply rfl;apply rfl)|apply w4|apply w5|apply w6|apply w7|(apply w8;apply rfl)|(apply w9;apply rfl)|apply wa|apply wd|apply we|apply wb|apply wc|apply wf|apply wg|apply wh|(apply wi;apply rfl)|apply wj|apply wk|apply wl|apply wm|apply wn)
      refine s_load tk rfl rfl (hR3 _) rfl rfl ?_
      repeat (first|(apply w1;apply rfl;apply rfl)|(apply w2;apply rfl)|(apply w3;apply rfl;apply rfl)|apply w4|apply w5|apply w6|apply w7|(apply w8;apply rfl)|(apply w9;apply rfl)|apply wa|apply wd|apply we|apply wb|apply wc|apply wf|apply wg|apply wh|(apply wi;apply rfl)|apply wj|apply wk|apply wl|apply wm|apply wn)
      refine s_call rfl rfl fk71 ?_
      refine contains_c hop ?_
      repeat (first|(apply w1;apply rfl;apply rfl)|(apply w2;apply rfl)|(apply w3;apply rfl;apply rfl)|apply w4|apply w5|apply w6|apply w7|(apply w8;apply rfl)|(apply w9;apply rfl)|apply wa|apply wd|apply we|apply wb|apply wc|apply wf|apply wg|apply wh|(apply wi;apply rfl)|apply wj|apply wk|apply wl|apply wm|apply wn)
      refine s_store tk rfl rfl (put_same _ _ _) rfl (ltb rfl) rfl ?_
      rw [put_put]
      repeat (first|(apply w1;apply rfl;apply rfl)|(apply w2;apply rfl)|(apply w3;apply rfl;apply rfl)|apply w4|apply w5|apply w6|apply w7|(apply w8;apply rfl)|(apply w9;apply rfl)|apply wa|apply wd|apply we|apply wb|apply wc|apply wf|apply wg|apply wh|(apply wi;apply rfl)|apply wj|apply wk|apply wl|apply wm|apply wn)
      exact rt0n rfl (AHeap.sub_refl _) (hK _)
end Abs
end Go.Proofs.Ytpifnlodilcgkaa

set_option linter.unusedVariables false
namespace Go.Proofs.Ytpifnlodilcgkaa
namespace Abs
set_option maxRecDepth 10000
attribute [local irreducible] AOps AW AP ACalls thenQ inBlk noGoto

theorem kind_cell {T : Tab} (hw : T.wf) {k : Nat} (hh : T.has (k + 1) = true) : (encTab T)[1 + k * 7 + 0]? = some (.i (T.get (k + 1)).kind) := by
  have hlt := (has_lt hw hh).2.2
  have hkl : k < T.nodes.length := by simpa using hlt
  rw [encTab_get T k 0 (by omega), List.getElem?_eq_getElem hkl]
  simp [Tab.get, List.getD_eq_getElem?_getD, List.getElem?_eq_getElem hkl, encNode]
theorem tright_c {t : Nat} {T : Tab} (hw : T.wf) {op : List Int} {o : Own} (hop : op.length ≤ 9223372036854775807) {H : AHeap} (hT : Rd H t (encTab T)) {K : AVal → AHeap → Prop} (hK : K (.b (T.right op)) H) :
    ACalls Try.prog 35 [.ptr t 0, .sl (encInts op) o] H K := by
  refine acalls_body Try.func35 rfl rfl rfl ?_
  have hrm := hw.2.1
  repeat (first|(apply w1;apply rfl;apply rfl)|(apply w2;apply rfl)|(apply w3;apply rfl;apply rfl)|apply w4|apply w5|apply w6|apply w7|(apply w8;apply rfl)|(apply w9;apply rfl)|apply wa|apply wd|apply we|apply wb|apply wc|apply wf|apply wg|apply wh|(apply wi;apply rfl)|apply wj|apply wk|apply wl|apply wm|apply wn)
  refine s_box rfl rfl rfl (fun b2 h2 => ?_)
  repeat (first|(apply w1;apply rfl;apply rfl)|(apply w2;apply rfl)|(apply w3;apply rfl;apply rfl)|apply w4|apply w5|apply w6|apply w7|(apply w8;apply rfl)|(apply w9;apply rfl)|apply wa|apply wd|apply we|apply wb|apply wc|apply wf|apply wg|apply wh|(apply wi;apply rfl)|apply wj|apply wk|apply wl|apply wm|apply wn)
  refine s_box rfl rfl rfl (fun b3 h3 => ?_)
  obtain ⟨n32, h3'⟩ := put_none h3
  have nt2 : t ≠ b2 := fun e => by rcases hT with h | h <;> (rw [e, h2] at h; cases h)
  have nt3 : t ≠ b3 := fun e => by rcases hT with h | h <;> (rw [e, h3'] at h; cases h)
  have r2 : Rd ((H.put b2 (.cells [.ptr t 0])).put b3 (.cells [.sl (encInts op) o])) b2 [.ptr t 0] := .inl (by rw [put_ne (Ne.symm n32), put_same])
  have r3 : Rd ((H.put b2 (.cells [.ptr t 0])).put b3 (.cells [.sl (encInts op) o])) b3 [.sl (encInts op) o] := .inl (put_same _ _ _)
  have rt : Rd ((H.put b2 (.cells [.ptr t 0])).put b3 (.cells [.sl (encInts op) o])) t (encTab T) := by unfold Rd; rw [put_ne nt3, put_ne nt2]; exact hT
  have hsub : H.sub ((H.put b2 (.cells [.ptr t 0])).put b3 (.cells [.sl (encInts op) o])) := sub_new h3' (sub_new h2 (AHeap.sub_refl _))
  generalize ((H.put b2 (.cells [.ptr t 0])).put b3 (.cells [.sl (encInts op) o])) = X at r2 r3 rt hsub ⊢
  unfold Tab.right at hK
  repeat (first|(apply w1;apply rfl;apply rfl)|(apply w2;apply rfl)|(apply w3;apply rfl;apply rfl)|apply w4|apply w5|apply w6|apply w7|(apply w8;apply rfl)|(apply w9;apply rfl)|apply wa|apply wd|apply we|apply wb|apply wc|apply wf|apply wg|apply wh|(apply wi;apply rfl)|apply wj|apply wk|apply wl|apply wm|apply wn|(apply s_load tk;apply rfl;apply rfl;(assumption);apply rfl;apply rfl)|(apply s_ept tk;apply rfl;apply rfl;apply rfl;apply rfl))
  refine s_call rfl rfl fk45 ?_
  have rest : ∀ (r0 : Bool) {F : Fr} {n : Nat} {c : Code} {Q : AQ}, True := fun _ _ _ _ _ => trivial
  have fin : ∀ (b6 : Nat), X b6 = none → ∀ (r0 : Bool), r0 = (T.has 1 && decide ((T.get 1).kind = 2) && decide (T.links 1 = 0)) → ∀ (K' : AVal → AHeap → Prop), (∀ v, K' v (X.put b6 (.cells [.b (T.rightTo op r0 T.room.toNat)]))) →
      ACalls Try.prog 68 [.ptr t 0, .clo 69 [] [.ptr b6 0, .ptr b2 0, .ptr b3 0]] (X.put b6 (.cells [.b r0])) K' := fun b6 h6 r0 hr0 K' hK' => by
    have nt : t ≠ b6 := fun e => by rcases rt with h | h <;> (rw [e, h6] at h; cases h)
    have n2 : b2 ≠ b6 := fun e => by rcases r2 with h | h <;> (rw [e, h6] at h; cases h)
    have n3 : b3 ≠ b6 := fun e => by rcases r3 with h | h <;> (rw [e, h6] at h; cases h)
    refine each_c hw fk69 (fun k => X.put b6 (.cells [.b (T.rightTo op r0 k)])) (fun k => by unfold Rd; rw [put_ne nt]; exact rt) (fun k hk hh K2 hK2 => ?_) (fun k hh => ?_) (hK' _)
    · refine right1_c hw hop hh (r := T.rightTo op r0 k) (by unfold Rd; rw [put_ne nt]; exact rt) (put_same _ _ _) (by unfold Rd; rw [put_ne n2]; exact r2) (by unfold Rd; rw [put_ne n3]; exact r3) n2 n3 nt (fun v => ?_)
      rw [put_put]
      have e : T.rightTo op r0 (k + 1) = T.rightStep op k (T.rightTo op r0 k) := by simp only [Tab.rightTo, hh, if_true]
      rw [← e]; exact hK2 v
    · have e : T.rightTo op r0 (k + 1) = T.rightTo op r0 k := by simp [Tab.rightTo, hh]
      rw [e]; exact AHeap.sub_refl _
  refine at_c hw rt (fun h1 => ?_) (fun h0 => ?_)
  · have hk := kind_cell hw (k := 0) h1
    have hk' : (encTab T)[1 + (1 - 1 : Int).toNat * 7 + 0]? = some (.i (T.get 1).kind) := hk
    repeat (first|(apply w1;apply rfl;apply rfl)|(apply w2;apply rfl)|(apply w3;apply rfl;apply rfl)|apply w4|apply w5|apply w6|apply w7|(apply w8;apply rfl)|(apply w9;apply rfl)|apply wa|apply wd|apply we|apply wb|apply wc|apply wf|apply wg|apply wh|(apply wi;apply rfl)|apply wj|apply wk|apply wl|apply wm|apply wn)
    refine s_load tk rfl rfl rt rfl hk' ?_
    repeat (first|(apply w1;apply rfl;apply rfl)|(apply w2;apply rfl)|(apply w3;apply rfl;apply rfl)|apply w4|apply w5|apply w6|apply w7|(apply w8;apply rfl)|(apply w9;apply rfl)|apply wa|apply wd|apply we|apply wb|apply wc|apply wf|apply wg|apply wh|(apply wi;apply rfl)|apply wj|apply wk|apply wl|apply wm|apply wn)
    refine s_gsplit rfl rfl (fun e1 => ?_) (fun e1 => ?_)
    · repeat (first|(apply w1;apply rfl;apply rfl)|(apply w2;apply rfl)|(apply w3;apply rfl;apply rfl)|apply w4|apply w5|apply w6|apply w7|(apply w8;apply rfl)|(apply w9;apply rfl)|apply wa|apply wd|apply we|apply wb|apply wc|apply wf|apply wg|apply wh|(apply wi;apply rfl)|apply wj|apply wk|apply wl|apply wm|apply wn|(apply s_load tk;apply rfl;apply rfl;(assumption);apply rfl;apply rfl)|(apply s_ept tk;apply rfl;apply rfl;apply rfl;apply rfl))
      refine s_call rfl rfl fk34 ?_
      refine links_c hw rt ?_
      repeat (first|(apply w1;apply rfl;apply rfl)|(apply w2;apply rfl)|(apply w3;apply rfl;apply rfl)|apply w4|apply w5|apply w6|apply w7|(apply w8;apply rfl)|(apply w9;apply rfl)|apply wa|apply wd|apply we|apply wb|apply wc|apply wf|apply wg|apply wh|(apply wi;apply rfl)|apply wj|apply wk|apply wl|apply wm|apply wn)
      refine s_alloc tk rfl rfl rfl (fun b6 h6 => ?_)
      repeat (first|(apply w1;apply rfl;apply rfl)|(apply w2;apply rfl)|(apply w3;apply rfl;apply rfl)|apply w4|apply w5|apply w6|apply w7|(apply w8;apply rfl)|(apply w9;apply rfl)|apply wa|apply wd|apply we|apply wb|apply wc|apply wf|apply wg|apply wh|(apply wi;apply rfl)|apply wj|apply wk|apply wl|apply wm|apply wn)
      refine s_store tk rfl rfl (put_same _ _ _) rfl (ltb rfl) rfl ?_
      rw [put_put]
      repeat (first|(apply w1;apply rfl;apply rfl)|(apply w2;apply rfl)|(apply w3;apply rfl;apply rfl)|apply w4|apply w5|apply w6|apply w7|(apply w8;apply rfl)|(apply w9;apply rfl)|apply wa|apply wd|apply we|apply wb|apply wc|apply wf|apply wg|apply wh|(apply wi;apply rfl)|apply wj|apply wk|apply wl|apply wm|apply wn)
      refine s_load tk rfl rfl (by unfold Rd; rw [put_ne (fun e => by rcases r2 with h | h <;> (rw [e, h6] at h; cases h))]; exact r2) rfl rfl ?_
      repeat (first|(apply w1;apply rfl;apply rfl)|(apply w2;apply rfl)|(apply w3;apply rfl;apply rfl)|apply w4|apply w5|apply w6|apply w7|(apply w8;apply rfl)|(apply w9;apply rfl)|apply wa|apply wd|apply we|apply wb|apply wc|apply wf|apply wg|apply wh|(apply wi;apply rfl)|apply wj|apply wk|apply wl|apply wm|apply wn)
      refine s_call rfl rfl fk68 ?_
      refine fin b6 h6 (decide (T.links 1 = 0)) (by rw [h1, e1]; rfl) _ (fun v => ?_)
      repeat (first|(apply w1;apply rfl;apply rfl)|(apply w2;apply rfl)|(apply w3;apply rfl;apply rfl)|apply w4|apply w5|apply w6|apply w7|(apply w8;apply rfl)|(apply w9;apply rfl)|apply wa|apply wd|apply we|apply wb|apply wc|apply wf|apply wg|apply wh|(apply wi;apply rfl)|apply wj|apply wk|apply wl|apply wm|apply wn)
      refine s_load tk rfl rfl (.inl (put_same _ _ _)) rfl rfl ?_
      repeat (first|(apply w1;apply rfl;apply rfl)|(apply w2;apply rfl)|(apply w3;apply rfl;apply rfl)|apply w4|apply w5|apply w6|apply w7|(apply w8;apply rfl)|(apply w9;apply rfl)|apply wa|apply wd|apply we|apply wb|apply wc|apply wf|apply wg|apply wh|(apply wi;apply rfl)|apply wj|apply wk|apply wl|apply wm|apply wn)
      rw [h1, e1] at hK
      exact rt1 rfl rfl (.refl _) (AHeap.sub_trans hsub (sub_new h6 (AHeap.sub_refl _))) hK
    · repeat (first|(apply w1;apply rfl;apply rfl)|(apply w2;apply rfl)|(apply w3;apply rfl;apply rfl)|apply w4|apply w5|apply w6|apply w7|(apply w8;apply rfl)|(apply w9;apply rfl)|apply wa|apply wd|apply we|apply wb|apply wc|apply wf|apply wg|apply wh|(apply wi;apply rfl)|apply wj|apply wk|apply wl|apply wm|apply wn|(apply s_load tk;apply rfl;apply rfl;(assumption);apply rfl;apply rfl)|(apply s_ept tk;apply rfl;apply rfl;apply rfl;apply rfl))
      refine s_alloc tk rfl rfl rfl (fun b6 h6 => ?_)
      repeat (first|(apply w1;apply rfl;apply rfl)|(apply w2;apply rfl)|(apply w3;apply rfl;apply rfl)|apply w4|apply w5|apply w6|apply w7|(apply w8;apply rfl)|(apply w9;apply rfl)|apply wa|apply wd|apply we|apply wb|apply wc|apply wf|apply wg|apply wh|(apply wi;apply rfl)|apply wj|apply wk|apply wl|apply wm|apply wn)
      refine s_store tk rfl rfl (put_same _ _ _) rfl (ltb rfl) rfl ?_
      rw [put_put]
      repeat (first|(apply w1;apply rfl;apply rfl)|(apply w2;apply rfl)|(apply w3;apply rfl;apply rfl)|apply w4|apply w5|apply w6|apply w7|(apply w8;apply rfl)|(apply w9;apply rfl)|apply wa|apply wd|apply we|apply wb|apply wc|apply wf|apply wg|apply wh|(apply wi;apply rfl)|apply wj|apply wk|apply wl|apply wm|apply wn)
      refine s_load tk rfl rfl (by unfold Rd; rw [put_ne (fun e => by rcases r2 with h | h <;> (rw [e, h6] at h; cases h))]; exact r2) rfl rfl ?_
      repeat (first|(apply w1;apply rfl;apply rfl)|(apply w2;apply rfl)|(apply w3;apply rfl;apply rfl)|apply w4|apply w5|apply w6|apply w7|(apply w8;apply rfl)|(apply w9;apply rfl)|apply wa|apply wd|apply we|apply wb|apply wc|apply wf|apply wg|apply wh|(apply wi;apply rfl)|apply wj|apply wk|apply wl|apply wm|apply wn)
      refine s_call rfl rfl fk68 ?_
      refine fin b6 h6 false (by rw [h1, e1]; rfl) _ (fun v => ?_)
      repeat (first|(apply w1;apply rfl;apply rfl)|(apply w2;apply rfl)|(apply w3;apply rfl;apply rfl)|apply w4|apply w5|apply w6|apply w7|(apply w8;apply rfl)|(apply w9;apply rfl)|apply wa|apply wd|apply we|apply wb|apply wc|apply wf|apply wg|apply wh|(apply wi;apply rfl)|apply wj|apply wk|apply wl|apply wm|apply wn)
      refine s_load tk rfl rfl (.inl (put_same _ _ _)) rfl rfl ?_
      repeat (first|(apply w1;apply rfl;apply rfl)|(apply w2;apply rfl)|(apply w3;apply rfl;apply rfl)|apply w4|apply w5|apply w6|apply w7|(apply w8;apply rfl)|(apply w9;apply rfl)|apply wa|apply wd|apply we|apply wb|apply wc|apply wf|apply wg|apply wh|(apply wi;apply rfl)|apply wj|apply wk|apply wl|apply wm|apply wn)
      rw [h1, e1] at hK
      exact rt1 rfl rfl (.refl _) (AHeap.sub_trans hsub (sub_new h6 (AHeap.sub_refl _))) hK
  · repeat (first|(apply w1;apply rfl;apply rfl)|(apply w2;apply rfl)|(apply w3;apply rfl;apply rfl)|apply w4|apply w5|apply w6|apply w7|(apply w8;apply rfl)|(apply w9;apply rfl)|apply wa|apply wd|apply we|apply wb|apply wc|apply wf|apply wg|apply wh|(apply wi;apply rfl)|apply wj|apply wk|apply wl|apply wm|apply wn)
    refine s_alloc tk rfl rfl rfl (fun b6 h6 => ?_)
    repeat (first|(apply w1;apply rfl;apply rfl)|(apply w2;apply rfl)|(apply w3;apply rfl;apply rfl)|apply w4|apply w5|apply w6|apply w7|(apply w8;apply rfl)|(apply w9;apply rfl)|apply wa|apply wd|apply we|apply wb|apply wc|apply wf|apply wg|apply wh|(apply wi;apply rfl)|apply wj|apply wk|apply wl|apply wm|apply wn)
    refine s_store tk rfl rfl (put_same _ _ _) rfl (ltb rfl) rfl ?_
    rw [put_put]
    repeat (first|(apply w1;apply rfl;apply rfl)|(apply w2;apply rfl)|(apply w3;apply rfl;apply rfl)|apply w4|apply w5|apply w6|apply w7|(apply w8;apply rfl)|(apply w9;apply rfl)|apply wa|apply wd|apply we|apply wb|apply wc|apply wf|apply wg|apply wh|(apply wi;apply rfl)|apply wj|apply wk|apply wl|apply wm|apply wn)
    refine s_load tk rfl rfl (by unfold Rd; rw [put_ne (fun e => by rcases r2 with h | h <;> (rw [e, h6] at h; cases h))]; exact r2) rfl rfl ?_
    repeat (first|(apply w1;apply rfl;apply rfl)|(apply w2;apply rfl)|(apply w3;apply rfl;apply rfl)|apply w4|apply w5|apply w6|apply w7|(apply w8;apply rfl)|(apply w9;apply rfl)|apply wa|apply wd|apply we|apply wb|apply wc|apply wf|apply wg|apply wh|(apply wi;apply rfl)|apply wj|apply wk|apply wl|apply wm|apply wn)
    refine s_call rfl rfl fk68 ?_
    refine fin b6 h6 false (by rw [h0]; rfl) _ (fun v => ?_)
    repeat (first|(apply w1;apply rfl;apply rfl)|(apply w2;apply rfl)|(apply w3;apply rfl;apply rfl)|apply w4|apply w5|apply w6|apply w7|(apply w8;apply rfl)|(apply w9;apply rfl)|apply wa|apply wd|apply we|apply wb|apply wc|apply wf|apply wg|apply wh|(apply wi;apply rfl)|apply wj|apply wk|apply wl|apply wm|apply wn)
    refine s_load tk rfl rfl (.inl (put_same _ _ _)) rfl rfl ?_
    repeat (first|(apply w1;apply rfl;apply rfl)|(apply w2;apply rfl)|(apply w3;apply rfl;apply rfl)|apply w4|apply w5|apply w6|apply w7|(apply w8;apply rfl)|(apply w9;apply rfl)|apply wa|apply wd|apply we|apply wb|apply wc|apply wf|apply wg|apply wh|(apply wi;apply rfl)|apply wj|apply wk|apply wl|apply wm|apply wn)
    rw [h0] at hK
    exact rt1 rfl rfl (.refl _) (AHeap.sub_trans hsub (sub_new h6 (AHeap.sub_refl _))) hK

/-! ### no table -/
theorem at_nil {i : Int} {H : AHeap} {K : AVal → AHeap → Prop} (hK : K .nilp H) : ACalls Try.prog 45 [.nilp, .i i] H K := by
  refine acalls_body Try.func45 rfl rfl rfl ?_
  repeat (first|(apply w1;apply rfl;apply rfl)|(apply w3;apply rfl;apply rfl)|apply w4|apply w5|apply w6|apply w7|(apply w8;apply rfl)|apply wd|apply we)
  exact rt1 rfl rfl (.refl _) (AHeap.sub_refl _) hK
theorem drop_nil {i : Int} {H : AHeap} {K : AVal → AHeap → Prop} (hK : K (.b false) H) : ACalls Try.prog 106 [.nilp, .i i] H K := by
  refine acalls_body Try.func106 rfl rfl rfl ?_
  repeat (first|(apply w1;apply rfl;apply rfl)|(apply w2;apply rfl)|(apply w3;apply rfl;apply rfl)|apply w4|apply w5|apply w6|apply w7|(apply w8;apply rfl)|(apply w9;apply rfl)|apply wa|apply wd|apply we|apply wb|apply wc|apply wf|apply wg|apply wh|(apply wi;apply rfl)|apply wj|apply wk|apply wl|apply wm|apply wn)
  refine s_call rfl rfl fk45 ?_
  refine at_nil ?_
  repeat (first|(apply w1;apply rfl;apply rfl)|(apply w2;apply rfl)|(apply w3;apply rfl;apply rfl)|apply w4|apply w5|apply w6|apply w7|(apply w8;apply rfl)|(apply w9;apply rfl)|apply wa|apply wd|apply we|apply wb|apply wc|apply wf|apply wg|apply wh|(apply wi;apply rfl)|apply wj|apply wk|apply wl|apply wm|apply wn)
  exact rt1 rfl rfl (.refl _) (AHeap.sub_refl _) hK
end Abs
end Go.Proofs.Ytpifnlodilcgkaa
