import Derived.Test.YtmokoofibnoojaaT3
set_option linter.unusedVariables false
namespace Go.Proofs.Ytmokoofibnoojaa
namespace Abs
set_option maxRecDepth 10000
attribute [local irreducible] AOps AW ACalls thenQ inBlk noGoto

theorem put_comm {H : AHeap} {b c : Nat} {o p : HObj} (h : b ≠ c) : (H.put c o).put b p = (H.put b p).put c o := by
  funext x
  simp only [AHeap.put]
  by_cases h1 : x = b
  · subst h1; simp [h]
  · by_cases h2 : x = c
    · subst h2; simp [h1]
    · simp [h1, h2]
def Tab.cnt (T : Tab) : Nat → Int
  | 0 => 0
  | k + 1 => T.cnt k + if T.has (k + 1) then 1 else 0
def Tab.used (T : Tab) : Int := T.cnt T.room.toNat
theorem cnt_le (T : Tab) : ∀ k : Nat, 0 ≤ T.cnt k ∧ T.cnt k ≤ k
  | 0 => ⟨by simp [Tab.cnt], by simp [Tab.cnt]⟩
  | k + 1 => by
    have := cnt_le T k
    simp only [Tab.cnt]
    split <;> omega

end Abs
end Go.Proofs.Ytmokoofibnoojaa

set_option linter.unusedVariables false
namespace Go.Proofs.Ytmokoofibnoojaa
namespace Abs
set_option maxRecDepth 10000
attribute [local irreducible] AOps AW ACalls thenQ inBlk noGoto

/-! ### entries, by their directories -/
/-- What one directory tells: its number, for each of its entries that has node i. -/
def Tab.tellsOf (T : Tab) (i : Int) (k : Nat) : List Int := ((T.get (k + 1)).ents.filter fun e => decide (e.node = i)).map fun _ => (k : Int) + 1
def Tab.tells (T : Tab) (i : Int) : Nat → List Int
  | 0 => []
  | k + 1 => T.tells i k ++ if T.has (k + 1) then T.tellsOf i k else []
def Tab.links (T : Tab) (i : Int) : Int := (T.tells i T.room.toNat).length
def Tab.parent (T : Tab) (i : Int) : Int := (T.tells i T.room.toNat).headD 0
def tellsIn (i d : Int) (l : List Ent) : List Int := (l.filter fun e => decide (e.node = i)).map fun _ => d
theorem tellsIn_len (i d : Int) (l : List Ent) : (tellsIn i d l).length ≤ l.length := by
  simp only [tellsIn, List.length_map]; exact List.length_filter_le _ _
theorem tellsIn_ne (i d : Int) (hd : d ≠ 0) (l : List Ent) : ∀ x ∈ tellsIn i d l, x ≠ 0 := fun x hx => by
  obtain ⟨_, _, rfl⟩ := List.mem_map.1 hx; exact hd
theorem tells_ne (T : Tab) (i : Int) : ∀ k : Nat, ∀ x ∈ T.tells i k, x ≠ 0
  | 0, x, h => by cases h
  | k + 1, x, h => by
    simp only [Tab.tells] at h
    rcases List.mem_append.1 h with h | h
    · exact tells_ne T i k x h
    · split at h
      · exact tellsIn_ne i ((k : Int) + 1) (by omega) _ x h
      · cases h
theorem tells_len {T : Tab} (hw : T.wf) (i : Int) : ∀ k : Nat, (T.tells i k).length ≤ k * 1073741824
  | 0 => by simp [Tab.tells]
  | k + 1 => by
    have ih := tells_len hw i k
    simp only [Tab.tells]
    split
    · rw [List.length_append]
      have := tellsIn_len i ((k : Int) + 1) (T.get (k + 1)).ents
      have h2 := (get_small hw (k + 1)).2
      have h3 : (T.tellsOf i k).length = (tellsIn i ((k : Int) + 1) (T.get (k + 1)).ents).length := rfl
      rw [h3]
      omega
    · refine Nat.le_trans ?_ (Nat.mul_le_mul_right _ (Nat.le_succ k))
      rw [List.append_nil]
      exact ih

/-- One directory's entries are told to a closure, which keeps what it hears in one block of its own. -/
theorem ents1_c {t : Nat} {T : Tab} (hw : T.wf) {b b4 b5 : Nat} {f : FuncId} (hf : fnOk Try.prog f = true) {i : Int} (C : List Int → List AVal) {k : Nat} (hh : T.has (k + 1) = true) {l : List Int} {H : AHeap}
    (hT : Rd H t (encTab T)) (hb : H b = some (.cells (C l))) (h4 : Rd H b4 [.i i]) (h5 : Rd H b5 [.clo f [] [.ptr b 0]]) (n4 : b4 ≠ b) (n5 : b5 ≠ b) (nt : t ≠ b)
    (step : ∀ (l : List Int) (H : AHeap) (K : AVal → AHeap → Prop), l.length ≤ 1000000000000 → (∀ x ∈ l, x ≠ 0) → H b = some (.cells (C l)) → (∀ r, K r (H.put b (.cells (C (l ++ [(k : Int) + 1]))))) → ACalls Try.prog f [.i (k + 1), .ptr b 0] H K)
    (hlen : l.length ≤ 100000000000) (hz : ∀ x ∈ l, x ≠ 0) {K : AVal → AHeap → Prop} (hK : ∀ r, K r (H.put b (.cells (C (l ++ T.tellsOf i k))))) :
    ACalls Try.prog 104 [.i (k + 1), .ptr t (1 + k * 7), .ptr b4 0, .ptr b5 0] H K := by
  refine acalls_body Try.func104 rfl rfl rfl ?_
  have hlt := (has_lt hw hh).2.2
  have hkl : k < T.nodes.length := by simpa using hlt
  have hsm := (get_small hw (k + 1)).2
  have hcell : (encTab T)[1 + k * 7 + 5]? = some (.sl ((T.get (k + 1)).ents.map encEnt) .no) := by
    rw [encTab_get T k 5 (by omega), List.getElem?_eq_getElem hkl]
    simp [Tab.get, List.getD_eq_getElem?_getD, List.getElem?_eq_getElem hkl, encNode]
  generalize hes : (T.get (k + 1)).ents = es at hcell hsm
  have hfin : T.tellsOf i k = tellsIn i ((k : Int) + 1) es := by simp only [Tab.tellsOf, tellsIn, hes]
  repeat (first|(apply w1;apply rfl;apply rfl)|(apply w2;apply rfl)|(apply w3;apply rfl;apply rfl)|apply w4|apply w5|apply w6|apply w7|(apply w8;apply rfl)|(apply w9;apply rfl)|apply wa|apply wd|apply we|apply wb|apply wc|apply wf|apply wg|apply wh|(apply wi;apply rfl)|apply wj|apply wk|apply wl|apply wm|apply wn)
  refine s_load tk rfl rfl hT rfl hcell ?_
  repeat (first|(apply w1;apply rfl;apply rfl)|(apply w2;apply rfl)|(apply w3;apply rfl;apply rfl)|apply w4|apply w5|apply w6|apply w7|(apply w8;apply rfl)|(apply w9;apply rfl)|apply wa|apply wd|apply we|apply wb|apply wc|apply wf|apply wg|apply wh|(apply wi;apply rfl)|apply wj|apply wk|apply wl|apply wm|apply wn)
  have hl0 : H.sub (H.put b (.cells (C l))) := by
    have : H.put b (.cells (C l)) = H := by
      funext x
      simp only [AHeap.put]
      split
      · rename_i e; rw [e, hb]
      · rfl
    rw [this]; exact AHeap.sub_refl _
  refine aw_loop (fun j : Nat => j ≤ es.length) (fun j => [(0, .i ((k : Int) + 1)), (2, .ptr b4 0), (3, .ptr b5 0), (11, .sl (es.map encEnt) .no), (12, .i (es.map encEnt).length), (13, .i j)])
    (fun j => H.put b (.cells (C (l ++ tellsIn i ((k : Int) + 1) (es.take j))))) (fun j => es.length - j) 0 (Nat.zero_le _) (Fr.sub_cons rfl (Fr.sub_cons rfl (Fr.sub_cons rfl (Fr.sub_cons rfl (Fr.sub_cons rfl (Fr.sub_cons rfl (Fr.sub_nil _)))))))
    (by
      have e0 : l ++ tellsIn i ((k : Int) + 1) (es.take 0) = l := by simp [tellsIn]
      rw [e0]
      have : H.put b (.cells (C l)) = H := by
        funext x
        simp only [AHeap.put]
        split
        · rename_i e; rw [e, hb]
        · rfl
      rw [this]; exact AHeap.sub_refl _) ?_
  intro j hj
  have hR4 : ∀ o, Rd (H.put b o) b4 [.i i] := fun o => by unfold Rd; rw [put_ne n4]; exact h4
  have hR5 : ∀ o, Rd (H.put b o) b5 [.clo f [] [.ptr b 0]] := fun o => by unfold Rd; rw [put_ne n5]; exact h5
  repeat (first|(apply w1;apply rfl;apply rfl)|(apply w2;apply rfl)|(apply w3;apply rfl;apply rfl)|apply w4|apply w5|apply w6|apply w7|(apply w8;apply rfl)|(apply w9;apply rfl)|apply wa|apply wd|apply we|apply wb|apply wc|apply wf|apply wg|apply wh|(apply wi;apply rfl)|apply wj|apply wk|apply wl|apply wm|apply wn)
  refine aw_cond rfl (fun c => ?_) (fun c => ?_)
  · have c' : j < es.length := by simpa using c
    have htk : es.take (j + 1) = es.take j ++ [es[j]] := by rw [List.take_add_one, List.getElem?_eq_getElem c']; rfl
    have hst : tellsIn i ((k : Int) + 1) (es.take (j + 1)) = tellsIn i ((k : Int) + 1) (es.take j) ++ if es[j].node = i then [(k : Int) + 1] else [] := by
      rw [htk]
      simp only [tellsIn, List.filter_append, List.map_append]
      congr 1
      by_cases h : es[j].node = i <;> simp [h]
    have hll : (tellsIn i ((k : Int) + 1) (es.take j)).length ≤ es.length := Nat.le_trans (tellsIn_len _ _ _) (by rw [List.length_take]; omega)
    repeat (first|(apply w1;apply rfl;apply rfl)|(apply w2;apply rfl)|(apply w3;apply rfl;apply rfl)|apply w4|apply w5|apply w6|apply w7|(apply w8;apply rfl)|(apply w9;apply rfl)|apply wa|apply wd|apply we|apply wb|apply wc|apply wf|apply wg|apply wh|(apply wi;apply rfl)|apply wj|apply wk|apply wl|apply wm|apply wn)
    refine s_index tk rfl rfl rfl rfl (by omega) (show (es.map encEnt)[(j : Int).toNat]? = some (encEnt es[j]) by simp [c']) rfl ?_
    repeat (first|(apply w1;apply rfl;apply rfl)|(apply w2;apply rfl)|(apply w3;apply rfl;apply rfl)|apply w4|apply w5|apply w6|apply w7|(apply w8;apply rfl)|(apply w9;apply rfl)|apply wa|apply wd|apply we|apply wb|apply wc|apply wf|apply wg|apply wh|(apply wi;apply rfl)|apply wj|apply wk|apply wl|apply wm|apply wn)
    refine s_epta (ds := encEnt es[j]) tk rfl rfl rfl (Nat.le_refl 2) rfl ?_
    repeat (first|(apply w1;apply rfl;apply rfl)|(apply w2;apply rfl)|(apply w3;apply rfl;apply rfl)|apply w4|apply w5|apply w6|apply w7|(apply w8;apply rfl)|(apply w9;apply rfl)|apply wa|apply wd|apply we|apply wb|apply wc|apply wf|apply wg|apply wh|(apply wi;apply rfl)|apply wj|apply wk|apply wl|apply wm|apply wn)
    refine s_alloc tk rfl rfl rfl (fun b7 h7 => ?_)
    obtain ⟨n7, h7'⟩ := put_none h7
    repeat (first|(apply w1;apply rfl;apply rfl)|(apply w2;apply rfl)|(apply w3;apply rfl;apply rfl)|apply w4|apply w5|apply w6|apply w7|(apply w8;apply rfl)|(apply w9;apply rfl)|apply wa|apply wd|apply we|apply wb|apply wc|apply wf|apply wg|apply wh|(apply wi;apply rfl)|apply wj|apply wk|apply wl|apply wm|apply wn)
    refine s_storew tk rfl rfl (put_same _ _ _) rfl rfl rfl rfl ?_
    rw [put_put]
    have n47 : b4 ≠ b7 := fun e => by rcases h4 with h | h <;> (rw [e, h7'] at h; cases h)
    have n57 : b5 ≠ b7 := fun e => by rcases h5 with h | h <;> (rw [e, h7'] at h; cases h)
    repeat (first|(apply w1;apply rfl;apply rfl)|(apply w2;apply rfl)|(apply w3;apply rfl;apply rfl)|apply w4|apply w5|apply w6|apply w7|(apply w8;apply rfl)|(apply w9;apply rfl)|apply wa|apply wd|apply we|apply wb|apply wc|apply wf|apply wg|apply wh|(apply wi;apply rfl)|apply wj|apply wk|apply wl|apply wm|apply wn)
    refine s_load tk rfl rfl (.inl (put_same _ _ _)) rfl rfl ?_
    repeat (first|(apply w1;apply rfl;apply rfl)|(apply w2;apply rfl)|(apply w3;apply rfl;apply rfl)|apply w4|apply w5|apply w6|apply w7|(apply w8;apply rfl)|(apply w9;apply rfl)|apply wa|apply wd|apply we|apply wb|apply wc|apply wf|apply wg|apply wh|(apply wi;apply rfl)|apply wj|apply wk|apply wl|apply wm|apply wn)
    refine s_load tk rfl rfl (by unfold Rd; rw [put_ne n47]; exact hR4 _) rfl rfl ?_
    repeat (first|(apply w1;apply rfl;apply rfl)|(apply w2;apply rfl)|(apply w3;apply rfl;apply rfl)|apply w4|apply w5|apply w6|apply w7|(apply w8;apply rfl)|(apply w9;apply rfl)|apply wa|apply wd|apply we|apply wb|apply wc|apply wf|apply wg|apply wh|(apply wi;apply rfl)|apply wj|apply wk|apply wl|apply wm|apply wn)
    refine aw_cond rfl (fun g => ?_) (fun g => ?_)
    · have g' : es[j].node = i := by simpa using g
      repeat (first|(apply w1;apply rfl;apply rfl)|(apply w2;apply rfl)|(apply w3;apply rfl;apply rfl)|apply w4|apply w5|apply w6|apply w7|(apply w8;apply rfl)|(apply w9;apply rfl)|apply wa|apply wd|apply we|apply wb|apply wc|apply wf|apply wg|apply wh|(apply wi;apply rfl)|apply wj|apply wk|apply wl|apply wm|apply wn)
      refine s_load tk rfl rfl (by unfold Rd; rw [put_ne n57]; exact hR5 _) rfl rfl ?_
      repeat (first|(apply w1;apply rfl;apply rfl)|(apply w2;apply rfl)|(apply w3;apply rfl;apply rfl)|apply w4|apply w5|apply w6|apply w7|(apply w8;apply rfl)|(apply w9;apply rfl)|apply wa|apply wd|apply we|apply wb|apply wc|apply wf|apply wg|apply wh|(apply wi;apply rfl)|apply wj|apply wk|apply wl|apply wm|apply wn)
      refine s_clo rfl rfl rfl hf ?_
      refine step (l ++ tellsIn i ((k : Int) + 1) (es.take j)) _ _ (by rw [List.length_append]; omega) (fun x hx => by
        rcases List.mem_append.1 hx with hx | hx
        · exact hz x hx
        · exact tellsIn_ne _ _ (by omega) _ x hx) (by rw [put_ne (Ne.symm n7), put_same]) (fun r => ?_)
      repeat (first|(apply w1;apply rfl;apply rfl)|(apply w2;apply rfl)|(apply w3;apply rfl;apply rfl)|apply w4|apply w5|apply w6|apply w7|(apply w8;apply rfl)|(apply w9;apply rfl)|apply wa|apply wd|apply we|apply wb|apply wc|apply wf|apply wg|apply wh|(apply wi;apply rfl)|apply wj|apply wk|apply wl|apply wm|apply wn)
      refine s_add rfl rfl rfl (by omega) ?_
      repeat (first|(apply w1;apply rfl;apply rfl)|(apply w2;apply rfl)|(apply w3;apply rfl;apply rfl)|apply w4|apply w5|apply w6|apply w7|(apply w8;apply rfl)|(apply w9;apply rfl)|apply wa|apply wd|apply we|apply wb|apply wc|apply wf|apply wg|apply wh|(apply wi;apply rfl)|apply wj|apply wk|apply wl|apply wm|apply wn)
      refine ⟨j + 1, by omega, by omega, Fr.sub_cons rfl (Fr.sub_cons rfl (Fr.sub_cons rfl (Fr.sub_cons rfl (Fr.sub_cons rfl (Fr.sub_cons rfl (Fr.sub_nil _)))))), ?_⟩
      rw [hst, if_pos g', ← List.append_assoc, put_comm (Ne.symm n7), put_put]
      exact sub_new (by rw [put_ne n7]; exact h7') (AHeap.sub_refl _)
    · have g' : ¬ es[j].node = i := by simpa using g
      repeat (first|(apply w1;apply rfl;apply rfl)|(apply w2;apply rfl)|(apply w3;apply rfl;apply rfl)|apply w4|apply w5|apply w6|apply w7|(apply w8;apply rfl)|(apply w9;apply rfl)|apply wa|apply wd|apply we|apply wb|apply wc|apply wf|apply wg|apply wh|(apply wi;apply rfl)|apply wj|apply wk|apply wl|apply wm|apply wn)
      refine s_add rfl rfl rfl (by omega) ?_
      repeat (first|(apply w1;apply rfl;apply rfl)|(apply w2;apply rfl)|(apply w3;apply rfl;apply rfl)|apply w4|apply w5|apply w6|apply w7|(apply w8;apply rfl)|(apply w9;apply rfl)|apply wa|apply wd|apply we|apply wb|apply wc|apply wf|apply wg|apply wh|(apply wi;apply rfl)|apply wj|apply wk|apply wl|apply wm|apply wn)
      refine ⟨j + 1, by omega, by omega, Fr.sub_cons rfl (Fr.sub_cons rfl (Fr.sub_cons rfl (Fr.sub_cons rfl (Fr.sub_cons rfl (Fr.sub_cons rfl (Fr.sub_nil _)))))), ?_⟩
      rw [hst, if_neg g', List.append_nil]
      exact sub_new h7 (AHeap.sub_refl _)
  · have hje : j = es.length := by have : ¬ j < es.length := by simpa using c
                                   omega
    subst hje
    repeat (first|(apply w1;apply rfl;apply rfl)|(apply w2;apply rfl)|(apply w3;apply rfl;apply rfl)|apply w4|apply w5|apply w6|apply w7|(apply w8;apply rfl)|(apply w9;apply rfl)|apply wa|apply wd|apply we|apply wb|apply wc|apply wf|apply wg|apply wh|(apply wi;apply rfl)|apply wj|apply wk|apply wl|apply wm|apply wn)
    refine rt0n rfl (AHeap.sub_refl _) ?_
    rw [List.take_length, ← hfin]
    exact hK _
end Abs
end Go.Proofs.Ytmokoofibnoojaa

set_option linter.unusedVariables false
namespace Go.Proofs.Ytmokoofibnoojaa
namespace Abs
set_option maxRecDepth 10000
attribute [local irreducible] AOps AW ACalls thenQ inBlk noGoto

def Tab.nd (T : Tab) (k : Nat) : Node := if T.has (k + 1) then T.get (k + 1) else Node.zero
theorem nd_small {T : Tab} (hw : T.wf) (k : Nat) : (T.nd k).small := by
  unfold Tab.nd
  split
  · exact get_small hw _
  · exact Node.zero_small
theorem put_id {H : AHeap} {b : Nat} {o : HObj} (h : H b = some o) : H.put b o = H := by
  funext x
  simp only [AHeap.put]
  split
  · rename_i e; rw [e, h]
  · rfl
/-- All entries that have a node are told to a closure. -/
theorem ents_c {t : Nat} {T : Tab} (hw : T.wf) {b : Nat} {f : FuncId} (hf : fnOk Try.prog f = true) {i : Int} (C : List Int → List AVal) {H : AHeap} (hT : Rd H t (encTab T)) (nt : t ≠ b) (hb : H b = some (.cells (C [])))
    (step : ∀ (d : Int) (l : List Int) (H : AHeap) (K : AVal → AHeap → Prop), d ≠ 0 → l.length ≤ 1000000000000 → (∀ x ∈ l, x ≠ 0) → H b = some (.cells (C l)) → (∀ r, K r (H.put b (.cells (C (l ++ [d]))))) → ACalls Try.prog f [.i d, .ptr b 0] H K)
    {K : AVal → AHeap → Prop} (hK : K (.tup []) (H.put b (.cells (C (T.tells i T.room.toNat))))) :
    ACalls Try.prog 63 [.ptr t 0, .i i, .clo f [] [.ptr b 0]] H K := by
  refine acalls_body Try.func63 rfl rfl rfl ?_
  repeat (first|(apply w1;apply rfl;apply rfl)|(apply w2;apply rfl)|(apply w3;apply rfl;apply rfl)|apply w4|apply w5|apply w6|apply w7|(apply w8;apply rfl)|(apply w9;apply rfl)|apply wa|apply wd|apply we|apply wb|apply wc|apply wf|apply wg|apply wh|(apply wi;apply rfl)|apply wj|apply wk|apply wl|apply wm|apply wn)
  refine s_box rfl rfl rfl (fun b4 h4 => ?_)
  repeat (first|(apply w1;apply rfl;apply rfl)|(apply w2;apply rfl)|(apply w3;apply rfl;apply rfl)|apply w4|apply w5|apply w6|apply w7|(apply w8;apply rfl)|(apply w9;apply rfl)|apply wa|apply wd|apply we|apply wb|apply wc|apply wf|apply wg|apply wh|(apply wi;apply rfl)|apply wj|apply wk|apply wl|apply wm|apply wn)
  refine s_box rfl rfl rfl (fun b5 h5 => ?_)
  obtain ⟨n54, h5'⟩ := put_none h5
  have n4b : b4 ≠ b := (ne_of_get h4 hb).symm
  have n5b : b5 ≠ b := (ne_of_get h5' hb).symm
  have n4t : t ≠ b4 := by rcases hT with h | h <;> exact ne_of_get h4 h
  have n5t : t ≠ b5 := by rcases hT with h | h <;> exact ne_of_get h5' h
  have hstart : ((H.put b4 (.cells [.i i])).put b5 (.cells [.clo f [] [.ptr b 0]])) = ((H.put b4 (.cells [.i i])).put b5 (.cells [.clo f [] [.ptr b 0]])).put b (.cells (C [])) :=
    (put_id (by rw [put_ne (Ne.symm n5b), put_ne (Ne.symm n4b)]; exact hb)).symm
  rw [hstart]
  generalize hX : ((H.put b4 (.cells [.i i])).put b5 (.cells [.clo f [] [.ptr b 0]])) = X
  have x4 : X b4 = some (.cells [.i i]) := by rw [← hX, put_ne (Ne.symm n54), put_same]
  have x5 : X b5 = some (.cells [.clo f [] [.ptr b 0]]) := by rw [← hX, put_same]
  have xt : Rd X t (encTab T) := by unfold Rd; rw [← hX, put_ne n5t, put_ne n4t]; exact hT
  have xs : ∀ o, (H.put b o).sub (X.put b o) := fun o => AHeap.put_sub (by rw [← hX]; exact sub_new h5' (sub_new h4 (AHeap.sub_refl _))) b o
  repeat (first|(apply w1;apply rfl;apply rfl)|(apply w2;apply rfl)|(apply w3;apply rfl;apply rfl)|apply w4|apply w5|apply w6|apply w7|(apply w8;apply rfl)|(apply w9;apply rfl)|apply wa|apply wd|apply we|apply wb|apply wc|apply wf|apply wg|apply wh|(apply wi;apply rfl)|apply wj|apply wk|apply wl|apply wm|apply wn)
  refine s_call rfl rfl fk103 ?_
  refine each_c hw fk104 (fun k => X.put b (.cells (C (T.tells i k)))) (fun k => by unfold Rd; rw [put_ne nt]; exact xt) (fun k hk hh K hK => ?_) (fun k hh => ?_) ?_
  · refine ents1_c hw hf C hh (l := T.tells i k) (by unfold Rd; rw [put_ne nt]; exact xt) (put_same _ _ _) (.inl (by rw [put_ne n4b]; exact x4)) (.inl (by rw [put_ne n5b]; exact x5)) n4b n5b nt (fun l H K => step _ l H K (by omega)) ?_ (tells_ne T i k) (fun r => ?_)
    · have := tells_len hw i k
      have := hw.2.1
      omega
    · rw [put_put]
      have e : T.tells i (k + 1) = T.tells i k ++ T.tellsOf i k := by simp only [Tab.tells, hh, if_true]
      rw [← e]; exact hK r
  · have e : T.tells i (k + 1) = T.tells i k := by simp [Tab.tells, hh]
    rw [e]; exact AHeap.sub_refl _
  · repeat (first|(apply w1;apply rfl;apply rfl)|(apply w2;apply rfl)|(apply w3;apply rfl;apply rfl)|apply w4|apply w5|apply w6|apply w7|(apply w8;apply rfl)|(apply w9;apply rfl)|apply wa|apply wd|apply we|apply wb|apply wc|apply wf|apply wg|apply wh|(apply wi;apply rfl)|apply wj|apply wk|apply wl|apply wm|apply wn)
    exact rt0n rfl (xs _) hK
theorem parent1_c {d : Int} {l : List Int} {b : Nat} {H : AHeap} (hd : d ≠ 0) (hl : ∀ x ∈ l, x ≠ 0) (hb : H b = some (.cells [.i (l.headD 0)])) {K : AVal → AHeap → Prop} (hK : ∀ r, K r (H.put b (.cells [.i ((l ++ [d]).headD 0)]))) :
    ACalls Try.prog 64 [.i d, .ptr b 0] H K := by
  refine acalls_body Try.func64 rfl rfl rfl ?_
  repeat (first|(apply w1;apply rfl;apply rfl)|(apply w2;apply rfl)|(apply w3;apply rfl;apply rfl)|apply w4|apply w5|apply w6|apply w7|(apply w8;apply rfl)|(apply w9;apply rfl)|apply wa|apply wd|apply we|apply wb|apply wc|apply wf|apply wg|apply wh|(apply wi;apply rfl)|apply wj|apply wk|apply wl|apply wm|apply wn)
  refine s_load tk rfl rfl (.inl hb) rfl rfl ?_
  repeat (first|(apply w1;apply rfl;apply rfl)|(apply w2;apply rfl)|(apply w3;apply rfl;apply rfl)|apply w4|apply w5|apply w6|apply w7|(apply w8;apply rfl)|(apply w9;apply rfl)|apply wa|apply wd|apply we|apply wb|apply wc|apply wf|apply wg|apply wh|(apply wi;apply rfl)|apply wj|apply wk|apply wl|apply wm|apply wn)
  refine aw_cond rfl (fun g => ?_) (fun g => ?_)
  · have g' : l.headD 0 = 0 := of_decide_eq_true g
    have e : l = [] := by
      cases l with
      | nil => rfl
      | cons x l => exact absurd g' (hl x List.mem_cons_self)
    subst e
    repeat (first|(apply w1;apply rfl;apply rfl)|(apply w2;apply rfl)|(apply w3;apply rfl;apply rfl)|apply w4|apply w5|apply w6|apply w7|(apply w8;apply rfl)|(apply w9;apply rfl)|apply wa|apply wd|apply we|apply wb|apply wc|apply wf|apply wg|apply wh|(apply wi;apply rfl)|apply wj|apply wk|apply wl|apply wm|apply wn)
    refine s_store tk rfl rfl hb rfl (ltb rfl) rfl ?_
    repeat (first|(apply w1;apply rfl;apply rfl)|(apply w2;apply rfl)|(apply w3;apply rfl;apply rfl)|apply w4|apply w5|apply w6|apply w7|(apply w8;apply rfl)|(apply w9;apply rfl)|apply wa|apply wd|apply we|apply wb|apply wc|apply wf|apply wg|apply wh|(apply wi;apply rfl)|apply wj|apply wk|apply wl|apply wm|apply wn)
    exact rt0n rfl (AHeap.sub_refl _) (hK _)
  · have g' : ¬ l.headD 0 = 0 := of_decide_eq_false g
    have e : (l ++ [d]).headD 0 = l.headD 0 := by
      cases l with
      | nil => exact absurd rfl g'
      | cons x l => rfl
    rw [e, put_id hb] at hK
    repeat (first|(apply w1;apply rfl;apply rfl)|(apply w2;apply rfl)|(apply w3;apply rfl;apply rfl)|apply w4|apply w5|apply w6|apply w7|(apply w8;apply rfl)|(apply w9;apply rfl)|apply wa|apply wd|apply we|apply wb|apply wc|apply wf|apply wg|apply wh|(apply wi;apply rfl)|apply wj|apply wk|apply wl|apply wm|apply wn)
    exact rt0n rfl (AHeap.sub_refl _) (hK _)
theorem parent_c {t : Nat} {T : Tab} (hw : T.wf) {i : Int} {H : AHeap} (hT : Rd H t (encTab T)) {K : AVal → AHeap → Prop} (hK : K (.i (T.parent i)) H) : ACalls Try.prog 24 [.ptr t 0, .i i] H K := by
  refine acalls_body Try.func24 rfl rfl rfl ?_
  repeat (first|(apply w1;apply rfl;apply rfl)|(apply w2;apply rfl)|(apply w3;apply rfl;apply rfl)|apply w4|apply w5|apply w6|apply w7|(apply w8;apply rfl)|(apply w9;apply rfl)|apply wa|apply wd|apply we|apply wb|apply wc|apply wf|apply wg|apply wh|(apply wi;apply rfl)|apply wj|apply wk|apply wl|apply wm|apply wn)
  refine s_alloc tk rfl rfl rfl (fun b hb => ?_)
  have hne : t ≠ b := by rcases hT with h | h <;> exact ne_of_get hb h
  repeat (first|(apply w1;apply rfl;apply rfl)|(apply w2;apply rfl)|(apply w3;apply rfl;apply rfl)|apply w4|apply w5|apply w6|apply w7|(apply w8;apply rfl)|(apply w9;apply rfl)|apply wa|apply wd|apply we|apply wb|apply wc|apply wf|apply wg|apply wh|(apply wi;apply rfl)|apply wj|apply wk|apply wl|apply wm|apply wn)
  refine s_store tk rfl rfl (put_same _ _ _) rfl (ltb rfl) rfl ?_
  rw [put_put]
  repeat (first|(apply w1;apply rfl;apply rfl)|(apply w2;apply rfl)|(apply w3;apply rfl;apply rfl)|apply w4|apply w5|apply w6|apply w7|(apply w8;apply rfl)|(apply w9;apply rfl)|apply wa|apply wd|apply we|apply wb|apply wc|apply wf|apply wg|apply wh|(apply wi;apply rfl)|apply wj|apply wk|apply wl|apply wm|apply wn)
  refine s_call rfl rfl fk63 ?_
  refine ents_c hw fk64 (fun l => [.i (l.headD 0)]) (by unfold Rd; rw [put_ne hne]; exact hT) hne (put_same _ _ _) (fun d l H K hd _ hl hb hK => parent1_c hd hl hb hK) ?_
  rw [put_put]
  repeat (first|(apply w1;apply rfl;apply rfl)|(apply w2;apply rfl)|(apply w3;apply rfl;apply rfl)|apply w4|apply w5|apply w6|apply w7|(apply w8;apply rfl)|(apply w9;apply rfl)|apply wa|apply wd|apply we|apply wb|apply wc|apply wf|apply wg|apply wh|(apply wi;apply rfl)|apply wj|apply wk|apply wl|apply wm|apply wn)
  refine s_load tk rfl rfl (.inl (put_same _ _ _)) rfl rfl ?_
  repeat (first|(apply w1;apply rfl;apply rfl)|(apply w2;apply rfl)|(apply w3;apply rfl;apply rfl)|apply w4|apply w5|apply w6|apply w7|(apply w8;apply rfl)|(apply w9;apply rfl)|apply wa|apply wd|apply we|apply wb|apply wc|apply wf|apply wg|apply wh|(apply wi;apply rfl)|apply wj|apply wk|apply wl|apply wm|apply wn)
  exact rt1 rfl rfl (.refl _) (sub_new hb (AHeap.sub_refl _)) hK
end Abs
end Go.Proofs.Ytmokoofibnoojaa
