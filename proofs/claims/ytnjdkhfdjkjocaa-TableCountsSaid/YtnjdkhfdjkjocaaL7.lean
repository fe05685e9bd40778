import Derived.Test.YtnjdkhfdjkjocaaL6
set_option linter.unusedVariables false
namespace Go.Proofs.Ytnjdkhfdjkjocaa
namespace Abs
set_option maxRecDepth 10000

theorem all_one (T : Tab) (k : Nat) (j : Nat) (hj : j < (T.nd k).ents.length) : (T.all k ++ ((T.nd k).ents.take (j + 1)).map (·.node)) = (T.all k ++ ((T.nd k).ents.take j).map (·.node)) ++ [(T.nd k).ents[j].node] := by
  rw [List.take_add_one, List.getElem?_eq_getElem hj, List.map_append, List.append_assoc]
  rfl
set_option maxHeartbeats 1000000 in
theorem tableCounts_c {l : List Ac} {o : Own} {H : AHeap} {K : AVal → AHeap → Prop} (hl : l.length ≤ 9223372036854775807) (hn : ∀ a ∈ l, a.n.len) (hK : K (.b true) H) :
    ACalls Try.prog 4 [.sl (l.map encAc) o] H K := by
  refine acalls_body Try.func4 rfl rfl rfl ?_
  repeat (first | refine w1 rfl rfl ?_ | refine w2 rfl ?_ | refine w3 rfl rfl ?_ | refine w4 ?_ | refine w5 ?_ | refine w6 ?_ | refine w7 ?_ | refine w8 rfl ?_ | refine w9 rfl ?_ | refine wa ?_ | refine wd ?_ | refine we ?_ | refine wb ?_ | refine wc ?_ | refine wf ?_ | refine wg ?_ | refine wh ?_ | refine wi rfl ?_ | refine wj ?_ | refine wk ?_ | refine wl ?_ | refine wm ?_ | refine wn ?_)
  refine s_call rfl rfl fk13 ?_
  refine awake_c ?_
  repeat (first | refine w1 rfl rfl ?_ | refine w2 rfl ?_ | refine w3 rfl rfl ?_ | refine w4 ?_ | refine w5 ?_ | refine w6 ?_ | refine w7 ?_ | refine w8 rfl ?_ | refine w9 rfl ?_ | refine wa ?_ | refine wd ?_ | refine we ?_ | refine wb ?_ | refine wc ?_ | refine wf ?_ | refine wg ?_ | refine wh ?_ | refine wi rfl ?_ | refine wj ?_ | refine wk ?_ | refine wl ?_ | refine wm ?_ | refine wn ?_)
  refine s_call rfl rfl fk14 ?_
  refine small_c hl hn (fun sm hsm => ?_)
  repeat (first | refine w1 rfl rfl ?_ | refine w2 rfl ?_ | refine w3 rfl rfl ?_ | refine w4 ?_ | refine w5 ?_ | refine w6 ?_ | refine w7 ?_ | refine w8 rfl ?_ | refine w9 rfl ?_ | refine wa ?_ | refine wd ?_ | refine we ?_ | refine wb ?_ | refine wc ?_ | refine wf ?_ | refine wg ?_ | refine wh ?_ | refine wi rfl ?_ | refine wj ?_ | refine wk ?_ | refine wl ?_ | refine wm ?_ | refine wn ?_)
  refine aw_cond rfl (fun c => ?_) (fun c => ?_)
  · repeat (first | refine w1 rfl rfl ?_ | refine w2 rfl ?_ | refine w3 rfl rfl ?_ | refine w4 ?_ | refine w5 ?_ | refine w6 ?_ | refine w7 ?_ | refine w8 rfl ?_ | refine w9 rfl ?_ | refine wa ?_ | refine wd ?_ | refine we ?_ | refine wb ?_ | refine wc ?_ | refine wf ?_ | refine wg ?_ | refine wh ?_ | refine wi rfl ?_ | refine wj ?_ | refine wk ?_ | refine wl ?_ | refine wm ?_ | refine wn ?_)
    exact rt1 rfl rfl (.refl _) (AHeap.sub_refl _) hK
  obtain ⟨h40, hfew⟩ := hsm (by simpa using c)
  clear c hsm
  repeat (first | refine w1 rfl rfl ?_ | refine w2 rfl ?_ | refine w3 rfl rfl ?_ | refine w4 ?_ | refine w5 ?_ | refine w6 ?_ | refine w7 ?_ | refine w8 rfl ?_ | refine w9 rfl ?_ | refine wa ?_ | refine wd ?_ | refine we ?_ | refine wb ?_ | refine wc ?_ | refine wf ?_ | refine wg ?_ | refine wh ?_ | refine wi rfl ?_ | refine wj ?_ | refine wk ?_ | refine wl ?_ | refine wm ?_ | refine wn ?_)
  refine s_call rfl rfl fk15 ?_
  refine new_c (fun t ht => ?_)
  repeat (first | refine w1 rfl rfl ?_ | refine w2 rfl ?_ | refine w3 rfl rfl ?_ | refine w4 ?_ | refine w5 ?_ | refine w6 ?_ | refine w7 ?_ | refine w8 rfl ?_ | refine w9 rfl ?_ | refine wa ?_ | refine wd ?_ | refine we ?_ | refine wb ?_ | refine wc ?_ | refine wf ?_ | refine wg ?_ | refine wh ?_ | refine wi rfl ?_ | refine wj ?_ | refine wk ?_ | refine wl ?_ | refine wm ?_ | refine wn ?_)
  refine s_call rfl rfl fk19 ?_
  refine play_c (new_wf _) (put_same _ _ _) h40 hfew (fun T hw _ => ?_)
  rw [put_put]
  have hT : ∀ o b, b ≠ t → Rd ((H.put t (.cells (encTab T))).put b o) t (encTab T) := fun o b hb => .inl (by rw [put_ne (Ne.symm hb), put_same])
  generalize hH0 : H.put t (.cells (encTab T)) = H0 at hT ⊢
  have hT0 : Rd H0 t (encTab T) := .inl (by rw [← hH0, put_same])
  have hsub : H.sub H0 := by rw [← hH0]; exact sub_new ht (AHeap.sub_refl _)
  have hlt : ∀ b, H0 b = none → b ≠ t := fun b hb e => by rw [e] at hb; rcases hT0 with h | h <;> (rw [h] at hb; cases hb)
  clear hH0
  have hlaw := counts_law hw
  have hsix : ∀ {F' : Fr} {v1 v2 v3 v4 v5 : AVal}, F'.get 5 = some v1 → F'.get 6 = some v2 → F'.get 7 = some v3 → F'.get 8 = some v4 → F'.get 9 = some v5 → Fr.sub [(5, v1), (6, v2), (7, v3), (8, v4), (9, v5)] F' :=
    fun h1 h2 h3 h4 h5 => Fr.sub_cons h1 (Fr.sub_cons h2 (Fr.sub_cons h3 (Fr.sub_cons h4 (Fr.sub_cons h5 (Fr.sub_nil _)))))
  repeat (first | refine w1 rfl rfl ?_ | refine w2 rfl ?_ | refine w3 rfl rfl ?_ | refine w4 ?_ | refine w5 ?_ | refine w6 ?_ | refine w7 ?_ | refine w8 rfl ?_ | refine w9 rfl ?_ | refine wa ?_ | refine wd ?_ | refine we ?_ | refine wb ?_ | refine wc ?_ | refine wf ?_ | refine wg ?_ | refine wh ?_ | refine wi rfl ?_ | refine wj ?_ | refine wk ?_ | refine wl ?_ | refine wm ?_ | refine wn ?_)
  refine aw_loop (fun m : Nat => m ≤ 24) (fun m => [(5, .ptr t 0), (6, .i (T.all m).length), (7, .i (T.lsum m)), (8, .b ((T.all m).all T.has)), (9, .i ((m : Int) + 1))]) (fun _ => H0) (fun m => 24 - m) 0 (by omega) (hsix rfl rfl rfl rfl rfl) (AHeap.sub_refl _) ?_
  intro m hm
  have b1 := lsum_le hw m
  have b2 := all_len hw m
  repeat (first | refine w1 rfl rfl ?_ | refine w2 rfl ?_ | refine w3 rfl rfl ?_ | refine w4 ?_ | refine w5 ?_ | refine w6 ?_ | refine w7 ?_ | refine w8 rfl ?_ | refine w9 rfl ?_ | refine wa ?_ | refine wd ?_ | refine we ?_ | refine wb ?_ | refine wc ?_ | refine wf ?_ | refine wg ?_ | refine wh ?_ | refine wi rfl ?_ | refine wj ?_ | refine wk ?_ | refine wl ?_ | refine wm ?_ | refine wn ?_)
  refine aw_cond rfl (fun c => ?_) (fun c => ?_)
  case refine_2 =>
    have : m = 24 := by have := of_decide_eq_false c; omega
    rw [← this] at hlaw
    clear this
    repeat (first | refine w1 rfl rfl ?_ | refine w2 rfl ?_ | refine w3 rfl rfl ?_ | refine w4 ?_ | refine w5 ?_ | refine w6 ?_ | refine w7 ?_ | refine w8 rfl ?_ | refine w9 rfl ?_ | refine wa ?_ | refine wd ?_ | refine we ?_ | refine wb ?_ | refine wc ?_ | refine wf ?_ | refine wg ?_ | refine wh ?_ | refine wi rfl ?_ | refine wj ?_ | refine wk ?_ | refine wl ?_ | refine wm ?_ | refine wn ?_)
    refine s_gsplit rfl rfl (fun _ => ?_) (fun e => absurd hlaw.1 (of_decide_eq_false e))
    repeat (first | refine w1 rfl rfl ?_ | refine w2 rfl ?_ | refine w3 rfl rfl ?_ | refine w4 ?_ | refine w5 ?_ | refine w6 ?_ | refine w7 ?_ | refine w8 rfl ?_ | refine w9 rfl ?_ | refine wa ?_ | refine wd ?_ | refine we ?_ | refine wb ?_ | refine wc ?_ | refine wf ?_ | refine wg ?_ | refine wh ?_ | refine wi rfl ?_ | refine wj ?_ | refine wk ?_ | refine wl ?_ | refine wm ?_ | refine wn ?_)
    refine s_gsplit rfl rfl (fun e => ?_) (fun e => ?_)
    · repeat (first | refine w1 rfl rfl ?_ | refine w2 rfl ?_ | refine w3 rfl rfl ?_ | refine w4 ?_ | refine w5 ?_ | refine w6 ?_ | refine w7 ?_ | refine w8 rfl ?_ | refine w9 rfl ?_ | refine wa ?_ | refine wd ?_ | refine we ?_ | refine wb ?_ | refine wc ?_ | refine wf ?_ | refine wg ?_ | refine wh ?_ | refine wi rfl ?_ | refine wj ?_ | refine wk ?_ | refine wl ?_ | refine wm ?_ | refine wn ?_)
      exact rt1 rfl rfl (.refl _) hsub hK
    · have e' : (T.all m).all T.has = true := by simpa using e
      repeat (first | refine w1 rfl rfl ?_ | refine w2 rfl ?_ | refine w3 rfl rfl ?_ | refine w4 ?_ | refine w5 ?_ | refine w6 ?_ | refine w7 ?_ | refine w8 rfl ?_ | refine w9 rfl ?_ | refine wa ?_ | refine wd ?_ | refine we ?_ | refine wb ?_ | refine wc ?_ | refine wf ?_ | refine wg ?_ | refine wh ?_ | refine wi rfl ?_ | refine wj ?_ | refine wk ?_ | refine wl ?_ | refine wm ?_ | refine wn ?_)
      refine rt1 rfl rfl (.refl _) hsub ?_
      have := decide_eq_true (hlaw.2 e')
      simp only [cond_true, cond_false, this]
      exact hK
  have hm24 : m < 24 := by have := of_decide_eq_true c; omega
  repeat (first | refine w1 rfl rfl ?_ | refine w2 rfl ?_ | refine w3 rfl rfl ?_ | refine w4 ?_ | refine w5 ?_ | refine w6 ?_ | refine w7 ?_ | refine w8 rfl ?_ | refine w9 rfl ?_ | refine wa ?_ | refine wd ?_ | refine we ?_ | refine wb ?_ | refine wc ?_ | refine wf ?_ | refine wg ?_ | refine wh ?_ | refine wi rfl ?_ | refine wj ?_ | refine wk ?_ | refine wl ?_ | refine wm ?_ | refine wn ?_)
  refine s_call rfl rfl fk20 ?_
  refine get_c hw hT0 ?_
  have hnd : (if T.has ((m : Int) + 1) = true then T.get ((m : Int) + 1) else Node.zero) = T.nd m := rfl
  rw [hnd]
  repeat (first | refine w1 rfl rfl ?_ | refine w2 rfl ?_ | refine w3 rfl rfl ?_ | refine w4 ?_ | refine w5 ?_ | refine w6 ?_ | refine w7 ?_ | refine w8 rfl ?_ | refine w9 rfl ?_ | refine wa ?_ | refine wd ?_ | refine we ?_ | refine wb ?_ | refine wc ?_ | refine wf ?_ | refine wg ?_ | refine wh ?_ | refine wi rfl ?_ | refine wj ?_ | refine wk ?_ | refine wl ?_ | refine wm ?_ | refine wn ?_)
  refine s_alloc tk rfl rfl rfl (fun b hb => ?_)
  have hbt := hlt b hb
  repeat (first | refine w1 rfl rfl ?_ | refine w2 rfl ?_ | refine w3 rfl rfl ?_ | refine w4 ?_ | refine w5 ?_ | refine w6 ?_ | refine w7 ?_ | refine w8 rfl ?_ | refine w9 rfl ?_ | refine wa ?_ | refine wd ?_ | refine we ?_ | refine wb ?_ | refine wc ?_ | refine wf ?_ | refine wg ?_ | refine wh ?_ | refine wi rfl ?_ | refine wj ?_ | refine wk ?_ | refine wl ?_ | refine wm ?_ | refine wn ?_)
  refine s_storew tk rfl rfl (put_same _ _ _) rfl rfl rfl rfl ?_
  rw [put_put]
  have hRb : Rd (H0.put b (.cells (encNode (T.nd m)))) b (encNode (T.nd m)) := .inl (put_same _ _ _)
  have hRt : Rd (H0.put b (.cells (encNode (T.nd m)))) t (encTab T) := hT _ _ hbt
  have hsb : H0.sub (H0.put b (.cells (encNode (T.nd m)))) := sub_new hb (AHeap.sub_refl _)
  have hes := (nd_small hw m).2
  have hall : T.all (m + 1) = T.all m ++ (T.nd m).ents.map (·.node) := rfl
  generalize hH1 : H0.put b (.cells (encNode (T.nd m))) = H1 at hRb hRt hsb ⊢
  generalize hN : T.nd m = N at hes hall hRb
  have hll : (N.ents.map encEnt).length = N.ents.length := by simp
  repeat (first | refine w1 rfl rfl ?_ | refine w2 rfl ?_ | refine w3 rfl rfl ?_ | refine w4 ?_ | refine w5 ?_ | refine w6 ?_ | refine w7 ?_ | refine w8 rfl ?_ | refine w9 rfl ?_ | refine wa ?_ | refine wd ?_ | refine we ?_ | refine wb ?_ | refine wc ?_ | refine wf ?_ | refine wg ?_ | refine wh ?_ | refine wi rfl ?_ | refine wj ?_ | refine wk ?_ | refine wl ?_ | refine wm ?_ | refine wn ?_ | refine s_load tk rfl rfl (by assumption) rfl rfl ?_ | refine s_ept tk rfl rfl rfl rfl ?_)
  refine aw_loop (fun j : Nat => j ≤ N.ents.length) (fun j => [(5, .ptr t 0), (6, .i (T.all m ++ (N.ents.take j).map (·.node)).length), (7, .i (T.lsum m)), (8, .b ((T.all m ++ (N.ents.take j).map (·.node)).all T.has)), (9, .i ((m : Int) + 1)), (10, .ptr b 0), (11, .b (T.has ((m : Int) + 1))), (12, .i j)])
    (fun _ => H1) (fun j => N.ents.length - j) 0 (Nat.zero_le _) (Fr.sub_cons rfl (Fr.sub_cons ?_ (Fr.sub_cons rfl (Fr.sub_cons ?_ (Fr.sub_cons rfl (Fr.sub_cons rfl (Fr.sub_cons rfl (Fr.sub_cons rfl (Fr.sub_nil _))))))))) (AHeap.sub_refl _) ?_
  · rw [List.take_zero, List.map_nil, List.append_nil]; rfl
  · rw [List.take_zero, List.map_nil, List.append_nil]; rfl
  intro j hj
  have hlen : (T.all m ++ (N.ents.take j).map (·.node)).length = (T.all m).length + j := by rw [List.length_append, List.length_map, List.length_take]; omega
  repeat (first | refine w1 rfl rfl ?_ | refine w2 rfl ?_ | refine w3 rfl rfl ?_ | refine w4 ?_ | refine w5 ?_ | refine w6 ?_ | refine w7 ?_ | refine w8 rfl ?_ | refine w9 rfl ?_ | refine wa ?_ | refine wd ?_ | refine we ?_ | refine wb ?_ | refine wc ?_ | refine wf ?_ | refine wg ?_ | refine wh ?_ | refine wi rfl ?_ | refine wj ?_ | refine wk ?_ | refine wl ?_ | refine wm ?_ | refine wn ?_ | refine s_load tk rfl rfl (by assumption) rfl rfl ?_ | refine s_ept tk rfl rfl rfl rfl ?_)
  refine aw_cond rfl (fun c2 => ?_) (fun c2 => ?_)
  · have c2' : j < N.ents.length := by simpa using c2
    have hstep : (T.all m ++ (N.ents.take (j + 1)).map (·.node)) = (T.all m ++ (N.ents.take j).map (·.node)) ++ [N.ents[j].node] := by
      rw [List.take_add_one, List.getElem?_eq_getElem c2', List.map_append, List.append_assoc]; rfl
    have hlen2 : (T.all m ++ (N.ents.take (j + 1)).map (·.node)).length = (T.all m ++ (N.ents.take j).map (·.node)).length + 1 := by rw [hstep, List.length_append]; rfl
    have hall2 : (T.all m ++ (N.ents.take (j + 1)).map (·.node)).all T.has = ((T.all m ++ (N.ents.take j).map (·.node)).all T.has && T.has N.ents[j].node) := by rw [hstep, List.all_append]; simp only [List.all_cons, List.all_nil, Bool.and_true]
    generalize hA : (T.all m ++ (N.ents.take j).map (·.node)) = A at hlen hlen2 hall2 ⊢
    repeat (first | refine w1 rfl rfl ?_ | refine w2 rfl ?_ | refine w3 rfl rfl ?_ | refine w4 ?_ | refine w5 ?_ | refine w6 ?_ | refine w7 ?_ | refine w8 rfl ?_ | refine w9 rfl ?_ | refine wa ?_ | refine wd ?_ | refine we ?_ | refine wb ?_ | refine wc ?_ | refine wf ?_ | refine wg ?_ | refine wh ?_ | refine wi rfl ?_ | refine wj ?_ | refine wk ?_ | refine wl ?_ | refine wm ?_ | refine wn ?_ | refine s_load tk rfl rfl (by assumption) rfl rfl ?_ | refine s_ept tk rfl rfl rfl rfl ?_)
    refine s_index tk rfl rfl rfl rfl (by omega) (show (N.ents.map encEnt)[(j : Int).toNat]? = some (encEnt N.ents[j]) by simp [c2']) rfl ?_
    repeat (first | refine w1 rfl rfl ?_ | refine w2 rfl ?_ | refine w3 rfl rfl ?_ | refine w4 ?_ | refine w5 ?_ | refine w6 ?_ | refine w7 ?_ | refine w8 rfl ?_ | refine w9 rfl ?_ | refine wa ?_ | refine wd ?_ | refine we ?_ | refine wb ?_ | refine wc ?_ | refine wf ?_ | refine wg ?_ | refine wh ?_ | refine wi rfl ?_ | refine wj ?_ | refine wk ?_ | refine wl ?_ | refine wm ?_ | refine wn ?_ | refine s_load tk rfl rfl (by assumption) rfl rfl ?_ | refine s_ept tk rfl rfl rfl rfl ?_)
    refine s_call rfl rfl fk20 ?_
    refine get_c hw hRt ?_
    repeat (first | refine w1 rfl rfl ?_ | refine w2 rfl ?_ | refine w3 rfl rfl ?_ | refine w4 ?_ | refine w5 ?_ | refine w6 ?_ | refine w7 ?_ | refine w8 rfl ?_ | refine w9 rfl ?_ | refine wa ?_ | refine wd ?_ | refine we ?_ | refine wb ?_ | refine wc ?_ | refine wf ?_ | refine wg ?_ | refine wh ?_ | refine wi rfl ?_ | refine wj ?_ | refine wk ?_ | refine wl ?_ | refine wm ?_ | refine wn ?_)
    refine s_alloc tk rfl rfl rfl (fun b2 hb2 => ?_)
    repeat (first | refine w1 rfl rfl ?_ | refine w2 rfl ?_ | refine w3 rfl rfl ?_ | refine w4 ?_ | refine w5 ?_ | refine w6 ?_ | refine w7 ?_ | refine w8 rfl ?_ | refine w9 rfl ?_ | refine wa ?_ | refine wd ?_ | refine we ?_ | refine wb ?_ | refine wc ?_ | refine wf ?_ | refine wg ?_ | refine wh ?_ | refine wi rfl ?_ | refine wj ?_ | refine wk ?_ | refine wl ?_ | refine wm ?_ | refine wn ?_)
    refine s_storew tk rfl rfl (put_same _ _ _) rfl rfl rfl rfl ?_
    repeat (first | refine w1 rfl rfl ?_ | refine w2 rfl ?_ | refine w3 rfl rfl ?_ | refine w4 ?_ | refine w5 ?_ | refine w6 ?_ | refine w7 ?_ | refine w8 rfl ?_ | refine w9 rfl ?_ | refine wa ?_ | refine wd ?_ | refine we ?_ | refine wb ?_ | refine wc ?_ | refine wf ?_ | refine wg ?_ | refine wh ?_ | refine wi rfl ?_ | refine wj ?_ | refine wk ?_ | refine wl ?_ | refine wm ?_ | refine wn ?_)
    have hfin : ∀ (w : Bool) {F' : Fr} {H' : AHeap}, w = (A.all T.has && T.has N.ents[j].node) → Fr.sub [(5, .ptr t 0), (6, .i ((A.length : Int) + 1)), (7, .i (T.lsum m)), (8, .b w), (9, .i ((m : Int) + 1)), (10, .ptr b 0), (11, .b (T.has ((m : Int) + 1))), (12, .i ((j : Int) + 1))] F' → H1.sub H' →
        ∃ j' : Nat, j' ≤ N.ents.length ∧ N.ents.length - j' < N.ents.length - j ∧ Fr.sub [(5, .ptr t 0), (6, .i (T.all m ++ (N.ents.take j').map (·.node)).length), (7, .i (T.lsum m)), (8, .b ((T.all m ++ (N.ents.take j').map (·.node)).all T.has)), (9, .i ((m : Int) + 1)), (10, .ptr b 0), (11, .b (T.has ((m : Int) + 1))), (12, .i j')] F' ∧ H1.sub H' :=
      fun w F' H' hw' h1 h2 => ⟨j + 1, c2', by omega, by rw [hlen2, hall2, ← hw']; exact h1, h2⟩
    have hs2 : H1.sub (H1.put b2 (.cells (encNode (if T.has N.ents[j].node = true then T.get N.ents[j].node else Node.zero)))) := sub_new hb2 (AHeap.sub_refl _)
    refine s_gsplit rfl rfl (fun e => ?_) (fun e => ?_)
    · repeat (first | refine w1 rfl rfl ?_ | refine w2 rfl ?_ | refine w3 rfl rfl ?_ | refine w4 ?_ | refine w5 ?_ | refine w6 ?_ | refine w7 ?_ | refine w8 rfl ?_ | refine w9 rfl ?_ | refine wa ?_ | refine wd ?_ | refine we ?_ | refine wb ?_ | refine wc ?_ | refine wf ?_ | refine wg ?_ | refine wh ?_ | refine wi rfl ?_ | refine wj ?_ | refine wk ?_ | refine wl ?_ | refine wm ?_ | refine wn ?_)
      refine s_add rfl rfl rfl (by omega) ?_
      repeat (first | refine w1 rfl rfl ?_ | refine w2 rfl ?_ | refine w3 rfl rfl ?_ | refine w4 ?_ | refine w5 ?_ | refine w6 ?_ | refine w7 ?_ | refine w8 rfl ?_ | refine w9 rfl ?_ | refine wa ?_ | refine wd ?_ | refine we ?_ | refine wb ?_ | refine wc ?_ | refine wf ?_ | refine wg ?_ | refine wh ?_ | refine wi rfl ?_ | refine wj ?_ | refine wk ?_ | refine wl ?_ | refine wm ?_ | refine wn ?_)
      refine s_add rfl rfl rfl (by omega) ?_
      repeat (first | refine w1 rfl rfl ?_ | refine w2 rfl ?_ | refine w3 rfl rfl ?_ | refine w4 ?_ | refine w5 ?_ | refine w6 ?_ | refine w7 ?_ | refine w8 rfl ?_ | refine w9 rfl ?_ | refine wa ?_ | refine wd ?_ | refine we ?_ | refine wb ?_ | refine wc ?_ | refine wf ?_ | refine wg ?_ | refine wh ?_ | refine wi rfl ?_ | refine wj ?_ | refine wk ?_ | refine wl ?_ | refine wm ?_ | refine wn ?_)
      refine hfin (T.has N.ents[j].node) (by rw [e]; rfl) (Fr.sub_cons rfl (Fr.sub_cons rfl (Fr.sub_cons rfl (Fr.sub_cons rfl (Fr.sub_cons rfl (Fr.sub_cons rfl (Fr.sub_cons rfl (Fr.sub_cons rfl (Fr.sub_nil _))))))))) ?_
      rw [put_put]; exact hs2
    · repeat (first | refine w1 rfl rfl ?_ | refine w2 rfl ?_ | refine w3 rfl rfl ?_ | refine w4 ?_ | refine w5 ?_ | refine w6 ?_ | refine w7 ?_ | refine w8 rfl ?_ | refine w9 rfl ?_ | refine wa ?_ | refine wd ?_ | refine we ?_ | refine wb ?_ | refine wc ?_ | refine wf ?_ | refine wg ?_ | refine wh ?_ | refine wi rfl ?_ | refine wj ?_ | refine wk ?_ | refine wl ?_ | refine wm ?_ | refine wn ?_)
      refine s_add rfl rfl rfl (by omega) ?_
      repeat (first | refine w1 rfl rfl ?_ | refine w2 rfl ?_ | refine w3 rfl rfl ?_ | refine w4 ?_ | refine w5 ?_ | refine w6 ?_ | refine w7 ?_ | refine w8 rfl ?_ | refine w9 rfl ?_ | refine wa ?_ | refine wd ?_ | refine we ?_ | refine wb ?_ | refine wc ?_ | refine wf ?_ | refine wg ?_ | refine wh ?_ | refine wi rfl ?_ | refine wj ?_ | refine wk ?_ | refine wl ?_ | refine wm ?_ | refine wn ?_)
      refine s_add rfl rfl rfl (by omega) ?_
      repeat (first | refine w1 rfl rfl ?_ | refine w2 rfl ?_ | refine w3 rfl rfl ?_ | refine w4 ?_ | refine w5 ?_ | refine w6 ?_ | refine w7 ?_ | refine w8 rfl ?_ | refine w9 rfl ?_ | refine wa ?_ | refine wd ?_ | refine we ?_ | refine wb ?_ | refine wc ?_ | refine wf ?_ | refine wg ?_ | refine wh ?_ | refine wi rfl ?_ | refine wj ?_ | refine wk ?_ | refine wl ?_ | refine wm ?_ | refine wn ?_)
      refine hfin false (by rw [e]; rfl) (Fr.sub_cons rfl (Fr.sub_cons rfl (Fr.sub_cons rfl (Fr.sub_cons rfl (Fr.sub_cons rfl (Fr.sub_cons rfl (Fr.sub_cons rfl (Fr.sub_cons rfl (Fr.sub_nil _))))))))) ?_
      rw [put_put]; exact hs2
  · have hje : j = N.ents.length := by have : ¬ j < N.ents.length := by simpa using c2
                                       omega
    subst hje
    rw [List.take_length, ← hall] at hlen ⊢
    have hbl := links_le hw ((m : Int) + 1)
    have hls : T.lsum (m + 1) = T.lsum m + if T.has ((m : Int) + 1) = true then T.links ((m : Int) + 1) else 0 := rfl
    have hb3 := lsum_le hw (m + 1)
    have hpz := parent_zero T ((m : Int) + 1)
    repeat (first | refine w1 rfl rfl ?_ | refine w2 rfl ?_ | refine w3 rfl rfl ?_ | refine w4 ?_ | refine w5 ?_ | refine w6 ?_ | refine w7 ?_ | refine w8 rfl ?_ | refine w9 rfl ?_ | refine wa ?_ | refine wd ?_ | refine we ?_ | refine wb ?_ | refine wc ?_ | refine wf ?_ | refine wg ?_ | refine wh ?_ | refine wi rfl ?_ | refine wj ?_ | refine wk ?_ | refine wl ?_ | refine wm ?_ | refine wn ?_)
    refine aw_cond rfl (fun e => ?_) (fun e => ?_)
    · rw [if_pos e] at hls
      repeat (first | refine w1 rfl rfl ?_ | refine w2 rfl ?_ | refine w3 rfl rfl ?_ | refine w4 ?_ | refine w5 ?_ | refine w6 ?_ | refine w7 ?_ | refine w8 rfl ?_ | refine w9 rfl ?_ | refine wa ?_ | refine wd ?_ | refine we ?_ | refine wb ?_ | refine wc ?_ | refine wf ?_ | refine wg ?_ | refine wh ?_ | refine wi rfl ?_ | refine wj ?_ | refine wk ?_ | refine wl ?_ | refine wm ?_ | refine wn ?_)
      refine s_call rfl rfl fk21 ?_
      refine links_c hw hRt ?_
      repeat (first | refine w1 rfl rfl ?_ | refine w2 rfl ?_ | refine w3 rfl rfl ?_ | refine w4 ?_ | refine w5 ?_ | refine w6 ?_ | refine w7 ?_ | refine w8 rfl ?_ | refine w9 rfl ?_ | refine wa ?_ | refine wd ?_ | refine we ?_ | refine wb ?_ | refine wc ?_ | refine wf ?_ | refine wg ?_ | refine wh ?_ | refine wi rfl ?_ | refine wj ?_ | refine wk ?_ | refine wl ?_ | refine wm ?_ | refine wn ?_)
      refine s_add rfl rfl rfl (by omega) ?_
      rw [← hls]
      repeat (first | refine w1 rfl rfl ?_ | refine w2 rfl ?_ | refine w3 rfl rfl ?_ | refine w4 ?_ | refine w5 ?_ | refine w6 ?_ | refine w7 ?_ | refine w8 rfl ?_ | refine w9 rfl ?_ | refine wa ?_ | refine wd ?_ | refine we ?_ | refine wb ?_ | refine wc ?_ | refine wf ?_ | refine wg ?_ | refine wh ?_ | refine wi rfl ?_ | refine wj ?_ | refine wk ?_ | refine wl ?_ | refine wm ?_ | refine wn ?_)
      refine s_call rfl rfl fk22 ?_
      refine parent_c hw hRt ?_
      repeat (first | refine w1 rfl rfl ?_ | refine w2 rfl ?_ | refine w3 rfl rfl ?_ | refine w4 ?_ | refine w5 ?_ | refine w6 ?_ | refine w7 ?_ | refine w8 rfl ?_ | refine w9 rfl ?_ | refine wa ?_ | refine wd ?_ | refine we ?_ | refine wb ?_ | refine wc ?_ | refine wf ?_ | refine wg ?_ | refine wh ?_ | refine wi rfl ?_ | refine wj ?_ | refine wk ?_ | refine wl ?_ | refine wm ?_ | refine wn ?_)
      refine s_call rfl rfl fk21 ?_
      refine links_c hw hRt ?_
      repeat (first | refine w1 rfl rfl ?_ | refine w2 rfl ?_ | refine w3 rfl rfl ?_ | refine w4 ?_ | refine w5 ?_ | refine w6 ?_ | refine w7 ?_ | refine w8 rfl ?_ | refine w9 rfl ?_ | refine wa ?_ | refine wd ?_ | refine we ?_ | refine wb ?_ | refine wc ?_ | refine wf ?_ | refine wg ?_ | refine wh ?_ | refine wi rfl ?_ | refine wj ?_ | refine wk ?_ | refine wl ?_ | refine wm ?_ | refine wn ?_)
      refine aw_cond rfl (fun e3 => ?_) (fun _ => ?_)
      · rw [hpz] at e3
        simp at e3
      repeat (first | refine w1 rfl rfl ?_ | refine w2 rfl ?_ | refine w3 rfl rfl ?_ | refine w4 ?_ | refine w5 ?_ | refine w6 ?_ | refine w7 ?_ | refine w8 rfl ?_ | refine w9 rfl ?_ | refine wa ?_ | refine wd ?_ | refine we ?_ | refine wb ?_ | refine wc ?_ | refine wf ?_ | refine wg ?_ | refine wh ?_ | refine wi rfl ?_ | refine wj ?_ | refine wk ?_ | refine wl ?_ | refine wm ?_ | refine wn ?_)
      refine s_add rfl rfl rfl (by omega) ?_
      repeat (first | refine w1 rfl rfl ?_ | refine w2 rfl ?_ | refine w3 rfl rfl ?_ | refine w4 ?_ | refine w5 ?_ | refine w6 ?_ | refine w7 ?_ | refine w8 rfl ?_ | refine w9 rfl ?_ | refine wa ?_ | refine wd ?_ | refine we ?_ | refine wb ?_ | refine wc ?_ | refine wf ?_ | refine wg ?_ | refine wh ?_ | refine wi rfl ?_ | refine wj ?_ | refine wk ?_ | refine wl ?_ | refine wm ?_ | refine wn ?_)
      exact ⟨m + 1, hm24, by omega, hsix rfl rfl rfl rfl rfl, hsb⟩
    · rw [if_neg (by rw [e]; decide)] at hls
      rw [Int.add_zero] at hls
      rw [← hls]
      repeat (first | refine w1 rfl rfl ?_ | refine w2 rfl ?_ | refine w3 rfl rfl ?_ | refine w4 ?_ | refine w5 ?_ | refine w6 ?_ | refine w7 ?_ | refine w8 rfl ?_ | refine w9 rfl ?_ | refine wa ?_ | refine wd ?_ | refine we ?_ | refine wb ?_ | refine wc ?_ | refine wf ?_ | refine wg ?_ | refine wh ?_ | refine wi rfl ?_ | refine wj ?_ | refine wk ?_ | refine wl ?_ | refine wm ?_ | refine wn ?_)
      refine s_call rfl rfl fk22 ?_
      refine parent_c hw hRt ?_
      repeat (first | refine w1 rfl rfl ?_ | refine w2 rfl ?_ | refine w3 rfl rfl ?_ | refine w4 ?_ | refine w5 ?_ | refine w6 ?_ | refine w7 ?_ | refine w8 rfl ?_ | refine w9 rfl ?_ | refine wa ?_ | refine wd ?_ | refine we ?_ | refine wb ?_ | refine wc ?_ | refine wf ?_ | refine wg ?_ | refine wh ?_ | refine wi rfl ?_ | refine wj ?_ | refine wk ?_ | refine wl ?_ | refine wm ?_ | refine wn ?_)
      refine s_call rfl rfl fk21 ?_
      refine links_c hw hRt ?_
      repeat (first | refine w1 rfl rfl ?_ | refine w2 rfl ?_ | refine w3 rfl rfl ?_ | refine w4 ?_ | refine w5 ?_ | refine w6 ?_ | refine w7 ?_ | refine w8 rfl ?_ | refine w9 rfl ?_ | refine wa ?_ | refine wd ?_ | refine we ?_ | refine wb ?_ | refine wc ?_ | refine wf ?_ | refine wg ?_ | refine wh ?_ | refine wi rfl ?_ | refine wj ?_ | refine wk ?_ | refine wl ?_ | refine wm ?_ | refine wn ?_)
      refine aw_cond rfl (fun e3 => ?_) (fun _ => ?_)
      · rw [hpz] at e3
        simp at e3
      repeat (first | refine w1 rfl rfl ?_ | refine w2 rfl ?_ | refine w3 rfl rfl ?_ | refine w4 ?_ | refine w5 ?_ | refine w6 ?_ | refine w7 ?_ | refine w8 rfl ?_ | refine w9 rfl ?_ | refine wa ?_ | refine wd ?_ | refine we ?_ | refine wb ?_ | refine wc ?_ | refine wf ?_ | refine wg ?_ | refine wh ?_ | refine wi rfl ?_ | refine wj ?_ | refine wk ?_ | refine wl ?_ | refine wm ?_ | refine wn ?_)
      refine s_add rfl rfl rfl (by omega) ?_
      repeat (first | refine w1 rfl rfl ?_ | refine w2 rfl ?_ | refine w3 rfl rfl ?_ | refine w4 ?_ | refine w5 ?_ | refine w6 ?_ | refine w7 ?_ | refine w8 rfl ?_ | refine w9 rfl ?_ | refine wa ?_ | refine wd ?_ | refine we ?_ | refine wb ?_ | refine wc ?_ | refine wf ?_ | refine wg ?_ | refine wh ?_ | refine wi rfl ?_ | refine wj ?_ | refine wk ?_ | refine wl ?_ | refine wm ?_ | refine wn ?_)
      exact ⟨m + 1, hm24, by omega, hsix rfl rfl rfl rfl rfl, hsb⟩
end Abs
end Go.Proofs.Ytnjdkhfdjkjocaa
