import Derived.Test.YtnjdkhfdjkjocaaT4
set_option linter.unusedVariables false
namespace Go.Proofs.Ytnjdkhfdjkjocaa
namespace Abs
set_option maxRecDepth 10000

/-! ### entries, by their directories -/
/-- What one directory tells: its number, for each of its entries that has node i. -/
def Tab.tellsOf (T : Tab) (i : Int) (k : Nat) : List Int := ((T.get (k + 1)).ents.filter fun e => decide (e.node = i)).map fun _ => (k : Int) + 1
def Tab.tells (T : Tab) (i : Int) : Nat → List Int
  | 0 => []
  | k + 1 => T.tells i k ++ if T.has (k + 1) then T.tellsOf i k else []
def Tab.links (T : Tab) (i : Int) : Int := (T.tells i T.room.toNat).length
def Tab.parent (T : Tab) (i : Int) : Int := (T.tells i T.room.toNat).headD 0
def tellsIn (i d : Int) (l : List Ent) : List Int := (l.filter fun e => decide (e.node = i)).map fun _ => d
theorem tellsIn_len (i d : Int) (l : List Ent) : (tellsIn i d l).length ≤ l.length := by
  simp only [tellsIn, List.length_map]; exact List.length_filter_le _ _
theorem tellsIn_ne (i d : Int) (hd : d ≠ 0) (l : List Ent) : ∀ x ∈ tellsIn i d l, x ≠ 0 := fun x hx => by
  obtain ⟨_, _, rfl⟩ := List.mem_map.1 hx; exact hd
theorem tells_ne (T : Tab) (i : Int) : ∀ k : Nat, ∀ x ∈ T.tells i k, x ≠ 0
  | 0, x, h => by cases h
  | k + 1, x, h => by
    simp only [Tab.tells] at h
    rcases List.mem_append.1 h with h | h
    · exact tells_ne T i k x h
    · split at h
      · exact tellsIn_ne i ((k : Int) + 1) (by omega) _ x h
      · cases h
theorem tells_len {T : Tab} (hw : T.wf) (i : Int) : ∀ k : Nat, (T.tells i k).length ≤ k * 1073741824
  | 0 => by simp [Tab.tells]
  | k + 1 => by
    have ih := tells_len hw i k
    simp only [Tab.tells]
    split
    · rw [List.length_append]
      have := tellsIn_len i ((k : Int) + 1) (T.get (k + 1)).ents
      have h2 := (get_small hw (k + 1)).2
      have h3 : (T.tellsOf i k).length = (tellsIn i ((k : Int) + 1) (T.get (k + 1)).ents).length := rfl
      rw [h3]
      omega
    · refine Nat.le_trans ?_ (Nat.mul_le_mul_right _ (Nat.le_succ k))
      rw [List.append_nil]
      exact ih

/-- One directory's entries are told to a closure, which keeps what it hears in one block of its own. -/
theorem ents1_c {t : Nat} {T : Tab} (hw : T.wf) {b b4 b5 : Nat} {f : FuncId} (hf : fnOk Try.prog f = true) {i : Int} (C : List Int → List AVal) {k : Nat} (hh : T.has (k + 1) = true) {l : List Int} {H : AHeap}
    (hT : Rd H t (encTab T)) (hb : H b = some (.cells (C l))) (h4 : Rd H b4 [.i i]) (h5 : Rd H b5 [.clo f [] [.ptr b 0]]) (n4 : b4 ≠ b) (n5 : b5 ≠ b) (nt : t ≠ b)
    (step : ∀ (l : List Int) (H : AHeap) (K : AVal → AHeap → Prop), l.length ≤ 1000000000000 → (∀ x ∈ l, x ≠ 0) → H b = some (.cells (C l)) → (∀ r, K r (H.put b (.cells (C (l ++ [(k : Int) + 1]))))) → ACalls Try.prog f [.i (k + 1), .ptr b 0] H K)
    (hlen : l.length ≤ 100000000000) (hz : ∀ x ∈ l, x ≠ 0) {K : AVal → AHeap → Prop} (hK : ∀ r, K r (H.put b (.cells (C (l ++ T.tellsOf i k))))) :
    ACalls Try.prog 90 [.i (k + 1), .ptr t (1 + k * 7), .ptr b4 0, .ptr b5 0] H K := by
  refine acalls_body Try.func90 rfl rfl rfl ?_
  have hlt := (has_lt hw hh).2.2
  have hkl : k < T.nodes.length := by simpa using hlt
  have hsm := (get_small hw (k + 1)).2
  have hcell : (encTab T)[1 + k * 7 + 5]? = some (.sl ((T.get (k + 1)).ents.map encEnt) .no) := by
    rw [encTab_get T k 5 (by omega), List.getElem?_eq_getElem hkl]
    simp [Tab.get, List.getD_eq_getElem?_getD, List.getElem?_eq_getElem hkl, encNode]
  generalize hes : (T.get (k + 1)).ents = es at hcell hsm
  have hfin : T.tellsOf i k = tellsIn i ((k : Int) + 1) es := by simp only [Tab.tellsOf, tellsIn, hes]
  repeat (first | refine w1 rfl rfl ?_ | refine w2 rfl ?_ | refine w3 rfl rfl ?_ | refine w4 ?_ | refine w5 ?_ | refine w6 ?_ | refine w7 ?_ | refine w8 rfl ?_ | refine w9 rfl ?_ | refine wa ?_ | refine wd ?_ | refine we ?_ | refine wb ?_ | refine wc ?_ | refine wf ?_ | refine wg ?_ | refine wh ?_ | refine wi rfl ?_ | refine wj ?_ | refine wk ?_ | refine wl ?_ | refine wm ?_ | refine wn ?_)
  refine s_load tk rfl rfl hT rfl hcell ?_
  repeat (first | refine w1 rfl rfl ?_ | refine w2 rfl ?_ | refine w3 rfl rfl ?_ | refine w4 ?_ | refine w5 ?_ | refine w6 ?_ | refine w7 ?_ | refine w8 rfl ?_ | refine w9 rfl ?_ | refine wa ?_ | refine wd ?_ | refine we ?_ | refine wb ?_ | refine wc ?_ | refine wf ?_ | refine wg ?_ | refine wh ?_ | refine wi rfl ?_ | refine wj ?_ | refine wk ?_ | refine wl ?_ | refine wm ?_ | refine wn ?_)
  have hl0 : H.sub (H.put b (.cells (C l))) := by
    have : H.put b (.cells (C l)) = H := by
      funext x
      simp only [AHeap.put]
      split
      · rename_i e; rw [e, hb]
      · rfl
    rw [this]; exact AHeap.sub_refl _
  refine aw_loop (fun j : Nat => j ≤ es.length) (fun j => [(0, .i ((k : Int) + 1)), (2, .ptr b4 0), (3, .ptr b5 0), (11, .sl (es.map encEnt) .no), (12, .i (es.map encEnt).length), (13, .i j)])
    (fun j => H.put b (.cells (C (l ++ tellsIn i ((k : Int) + 1) (es.take j))))) (fun j => es.length - j) 0 (Nat.zero_le _) (Fr.sub_cons rfl (Fr.sub_cons rfl (Fr.sub_cons rfl (Fr.sub_cons rfl (Fr.sub_cons rfl (Fr.sub_cons rfl (Fr.sub_nil _)))))))
    (by
      have e0 : l ++ tellsIn i ((k : Int) + 1) (es.take 0) = l := by simp [tellsIn]
      rw [e0]
      have : H.put b (.cells (C l)) = H := by
        funext x
        simp only [AHeap.put]
        split
        · rename_i e; rw [e, hb]
        · rfl
      rw [this]; exact AHeap.sub_refl _) ?_
  intro j hj
  have hR4 : ∀ o, Rd (H.put b o) b4 [.i i] := fun o => by unfold Rd; rw [put_ne n4]; exact h4
  have hR5 : ∀ o, Rd (H.put b o) b5 [.clo f [] [.ptr b 0]] := fun o => by unfold Rd; rw [put_ne n5]; exact h5
  repeat (first | refine w1 rfl rfl ?_ | refine w2 rfl ?_ | refine w3 rfl rfl ?_ | refine w4 ?_ | refine w5 ?_ | refine w6 ?_ | refine w7 ?_ | refine w8 rfl ?_ | refine w9 rfl ?_ | refine wa ?_ | refine wd ?_ | refine we ?_ | refine wb ?_ | refine wc ?_ | refine wf ?_ | refine wg ?_ | refine wh ?_ | refine wi rfl ?_ | refine wj ?_ | refine wk ?_ | refine wl ?_ | refine wm ?_ | refine wn ?_)
  refine aw_cond rfl (fun c => ?_) (fun c => ?_)
  · have c' : j < es.length := by simpa using c
    have htk : es.take (j + 1) = es.take j ++ [es[j]] := by rw [List.take_add_one, List.getElem?_eq_getElem c']; rfl
    have hst : tellsIn i ((k : Int) + 1) (es.take (j + 1)) = tellsIn i ((k : Int) + 1) (es.take j) ++ if es[j].node = i then [(k : Int) + 1] else [] := by
      rw [htk]
      simp only [tellsIn, List.filter_append, List.map_append]
      congr 1
      by_cases h : es[j].node = i <;> simp [h]
    have hll : (tellsIn i ((k : Int) + 1) (es.take j)).length ≤ es.length := Nat.le_trans (tellsIn_len _ _ _) (by rw [List.length_take]; omega)
    repeat (first | refine w1 rfl rfl ?_ | refine w2 rfl ?_ | refine w3 rfl rfl ?_ | refine w4 ?_ | refine w5 ?_ | refine w6 ?_ | refine w7 ?_ | refine w8 rfl ?_ | refine w9 rfl ?_ | refine wa ?_ | refine wd ?_ | refine we ?_ | refine wb ?_ | refine wc ?_ | refine wf ?_ | refine wg ?_ | refine wh ?_ | refine wi rfl ?_ | refine wj ?_ | refine wk ?_ | refine wl ?_ | refine wm ?_ | refine wn ?_)
    refine s_index tk rfl rfl rfl rfl (by omega) (show (es.map encEnt)[(j : Int).toNat]? = some (encEnt es[j]) by simp [c']) rfl ?_
    repeat (first | refine w1 rfl rfl ?_ | refine w2 rfl ?_ | refine w3 rfl rfl ?_ | refine w4 ?_ | refine w5 ?_ | refine w6 ?_ | refine w7 ?_ | refine w8 rfl ?_ | refine w9 rfl ?_ | refine wa ?_ | refine wd ?_ | refine we ?_ | refine wb ?_ | refine wc ?_ | refine wf ?_ | refine wg ?_ | refine wh ?_ | refine wi rfl ?_ | refine wj ?_ | refine wk ?_ | refine wl ?_ | refine wm ?_ | refine wn ?_)
    refine s_epta (ds := encEnt es[j]) tk rfl rfl rfl (Nat.le_refl 2) rfl ?_
    repeat (first | refine w1 rfl rfl ?_ | refine w2 rfl ?_ | refine w3 rfl rfl ?_ | refine w4 ?_ | refine w5 ?_ | refine w6 ?_ | refine w7 ?_ | refine w8 rfl ?_ | refine w9 rfl ?_ | refine wa ?_ | refine wd ?_ | refine we ?_ | refine wb ?_ | refine wc ?_ | refine wf ?_ | refine wg ?_ | refine wh ?_ | refine wi rfl ?_ | refine wj ?_ | refine wk ?_ | refine wl ?_ | refine wm ?_ | refine wn ?_)
    refine s_alloc tk rfl rfl rfl (fun b7 h7 => ?_)
    obtain ⟨n7, h7'⟩ := put_none h7
    repeat (first | refine w1 rfl rfl ?_ | refine w2 rfl ?_ | refine w3 rfl rfl ?_ | refine w4 ?_ | refine w5 ?_ | refine w6 ?_ | refine w7 ?_ | refine w8 rfl ?_ | refine w9 rfl ?_ | refine wa ?_ | refine wd ?_ | refine we ?_ | refine wb ?_ | refine wc ?_ | refine wf ?_ | refine wg ?_ | refine wh ?_ | refine wi rfl ?_ | refine wj ?_ | refine wk ?_ | refine wl ?_ | refine wm ?_ | refine wn ?_)
    refine s_storew tk rfl rfl (put_same _ _ _) rfl rfl rfl rfl ?_
    rw [put_put]
    have n47 : b4 ≠ b7 := fun e => by rcases h4 with h | h <;> (rw [e, h7'] at h; cases h)
    have n57 : b5 ≠ b7 := fun e => by rcases h5 with h | h <;> (rw [e, h7'] at h; cases h)
    repeat (first | refine w1 rfl rfl ?_ | refine w2 rfl ?_ | refine w3 rfl rfl ?_ | refine w4 ?_ | refine w5 ?_ | refine w6 ?_ | refine w7 ?_ | refine w8 rfl ?_ | refine w9 rfl ?_ | refine wa ?_ | refine wd ?_ | refine we ?_ | refine wb ?_ | refine wc ?_ | refine wf ?_ | refine wg ?_ | refine wh ?_ | refine wi rfl ?_ | refine wj ?_ | refine wk ?_ | refine wl ?_ | refine wm ?_ | refine wn ?_)
    refine s_load tk rfl rfl (.inl (put_same _ _ _)) rfl rfl ?_
    repeat (first | refine w1 rfl rfl ?_ | refine w2 rfl ?_ | refine w3 rfl rfl ?_ | refine w4 ?_ | refine w5 ?_ | refine w6 ?_ | refine w7 ?_ | refine w8 rfl ?_ | refine w9 rfl ?_ | refine wa ?_ | refine wd ?_ | refine we ?_ | refine wb ?_ | refine wc ?_ | refine wf ?_ | refine wg ?_ | refine wh ?_ | refine wi rfl ?_ | refine wj ?_ | refine wk ?_ | refine wl ?_ | refine wm ?_ | refine wn ?_)
    refine s_load tk rfl rfl (by unfold Rd; rw [put_ne n47]; exact hR4 _) rfl rfl ?_
    repeat (first | refine w1 rfl rfl ?_ | refine w2 rfl ?_ | refine w3 rfl rfl ?_ | refine w4 ?_ | refine w5 ?_ | refine w6 ?_ | refine w7 ?_ | refine w8 rfl ?_ | refine w9 rfl ?_ | refine wa ?_ | refine wd ?_ | refine we ?_ | refine wb ?_ | refine wc ?_ | refine wf ?_ | refine wg ?_ | refine wh ?_ | refine wi rfl ?_ | refine wj ?_ | refine wk ?_ | refine wl ?_ | refine wm ?_ | refine wn ?_)
    refine aw_cond rfl (fun g => ?_) (fun g => ?_)
    · have g' : es[j].node = i := by simpa using g
      repeat (first | refine w1 rfl rfl ?_ | refine w2 rfl ?_ | refine w3 rfl rfl ?_ | refine w4 ?_ | refine w5 ?_ | refine w6 ?_ | refine w7 ?_ | refine w8 rfl ?_ | refine w9 rfl ?_ | refine wa ?_ | refine wd ?_ | refine we ?_ | refine wb ?_ | refine wc ?_ | refine wf ?_ | refine wg ?_ | refine wh ?_ | refine wi rfl ?_ | refine wj ?_ | refine wk ?_ | refine wl ?_ | refine wm ?_ | refine wn ?_)
      refine s_load tk rfl rfl (by unfold Rd; rw [put_ne n57]; exact hR5 _) rfl rfl ?_
      repeat (first | refine w1 rfl rfl ?_ | refine w2 rfl ?_ | refine w3 rfl rfl ?_ | refine w4 ?_ | refine w5 ?_ | refine w6 ?_ | refine w7 ?_ | refine w8 rfl ?_ | refine w9 rfl ?_ | refine wa ?_ | refine wd ?_ | refine we ?_ | refine wb ?_ | refine wc ?_ | refine wf ?_ | refine wg ?_ | refine wh ?_ | refine wi rfl ?_ | refine wj ?_ | refine wk ?_ | refine wl ?_ | refine wm ?_ | refine wn ?_)
      refine s_clo rfl rfl rfl hf ?_
      refine step (l ++ tellsIn i ((k : Int) + 1) (es.take j)) _ _ (by rw [List.length_append]; omega) (fun x hx => by
        rcases List.mem_append.1 hx with hx | hx
        · exact hz x hx
        · exact tellsIn_ne _ _ (by omega) _ x hx) (by rw [put_ne (Ne.symm n7), put_same]) (fun r => ?_)
      repeat (first | refine w1 rfl rfl ?_ | refine w2 rfl ?_ | refine w3 rfl rfl ?_ | refine w4 ?_ | refine w5 ?_ | refine w6 ?_ | refine w7 ?_ | refine w8 rfl ?_ | refine w9 rfl ?_ | refine wa ?_ | refine wd ?_ | refine we ?_ | refine wb ?_ | refine wc ?_ | refine wf ?_ | refine wg ?_ | refine wh ?_ | refine wi rfl ?_ | refine wj ?_ | refine wk ?_ | refine wl ?_ | refine wm ?_ | refine wn ?_)
      refine s_add rfl rfl rfl (by omega) ?_
      repeat (first | refine w1 rfl rfl ?_ | refine w2 rfl ?_ | refine w3 rfl rfl ?_ | refine w4 ?_ | refine w5 ?_ | refine w6 ?_ | refine w7 ?_ | refine w8 rfl ?_ | refine w9 rfl ?_ | refine wa ?_ | refine wd ?_ | refine we ?_ | refine wb ?_ | refine wc ?_ | refine wf ?_ | refine wg ?_ | refine wh ?_ | refine wi rfl ?_ | refine wj ?_ | refine wk ?_ | refine wl ?_ | refine wm ?_ | refine wn ?_)
      refine ⟨j + 1, by omega, by omega, Fr.sub_cons rfl (Fr.sub_cons rfl (Fr.sub_cons rfl (Fr.sub_cons rfl (Fr.sub_cons rfl (Fr.sub_cons rfl (Fr.sub_nil _)))))), ?_⟩
      rw [hst, if_pos g', ← List.append_assoc, put_comm (Ne.symm n7), put_put]
      exact sub_new (by rw [put_ne n7]; exact h7') (AHeap.sub_refl _)
    · have g' : ¬ es[j].node = i := by simpa using g
      repeat (first | refine w1 rfl rfl ?_ | refine w2 rfl ?_ | refine w3 rfl rfl ?_ | refine w4 ?_ | refine w5 ?_ | refine w6 ?_ | refine w7 ?_ | refine w8 rfl ?_ | refine w9 rfl ?_ | refine wa ?_ | refine wd ?_ | refine we ?_ | refine wb ?_ | refine wc ?_ | refine wf ?_ | refine wg ?_ | refine wh ?_ | refine wi rfl ?_ | refine wj ?_ | refine wk ?_ | refine wl ?_ | refine wm ?_ | refine wn ?_)
      refine s_add rfl rfl rfl (by omega) ?_
      repeat (first | refine w1 rfl rfl ?_ | refine w2 rfl ?_ | refine w3 rfl rfl ?_ | refine w4 ?_ | refine w5 ?_ | refine w6 ?_ | refine w7 ?_ | refine w8 rfl ?_ | refine w9 rfl ?_ | refine wa ?_ | refine wd ?_ | refine we ?_ | refine wb ?_ | refine wc ?_ | refine wf ?_ | refine wg ?_ | refine wh ?_ | refine wi rfl ?_ | refine wj ?_ | refine wk ?_ | refine wl ?_ | refine wm ?_ | refine wn ?_)
      refine ⟨j + 1, by omega, by omega, Fr.sub_cons rfl (Fr.sub_cons rfl (Fr.sub_cons rfl (Fr.sub_cons rfl (Fr.sub_cons rfl (Fr.sub_cons rfl (Fr.sub_nil _)))))), ?_⟩
      rw [hst, if_neg g', List.append_nil]
      exact sub_new h7 (AHeap.sub_refl _)
  · have hje : j = es.length := by have : ¬ j < es.length := by simpa using c
                                   omega
    subst hje
    repeat (first | refine w1 rfl rfl ?_ | refine w2 rfl ?_ | refine w3 rfl rfl ?_ | refine w4 ?_ | refine w5 ?_ | refine w6 ?_ | refine w7 ?_ | refine w8 rfl ?_ | refine w9 rfl ?_ | refine wa ?_ | refine wd ?_ | refine we ?_ | refine wb ?_ | refine wc ?_ | refine wf ?_ | refine wg ?_ | refine wh ?_ | refine wi rfl ?_ | refine wj ?_ | refine wk ?_ | refine wl ?_ | refine wm ?_ | refine wn ?_)
    refine rt0n rfl (AHeap.sub_refl _) ?_
    rw [List.take_length, ← hfin]
    exact hK _
end Abs
end Go.Proofs.Ytnjdkhfdjkjocaa
