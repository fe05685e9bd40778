import Derived.Test.YtnjdkhfdjkjocaaT5
set_option linter.unusedVariables false
namespace Go.Proofs.Ytnjdkhfdjkjocaa
namespace Abs
set_option maxRecDepth 10000

theorem put_id {H : AHeap} {b : Nat} {o : HObj} (h : H b = some o) : H.put b o = H := by
  funext x
  simp only [AHeap.put]
  split
  · rename_i e; rw [e, h]
  · rfl
/-- All entries that have a node are told to a closure. -/
theorem ents_c {t : Nat} {T : Tab} (hw : T.wf) {b : Nat} {f : FuncId} (hf : fnOk Try.prog f = true) {i : Int} (C : List Int → List AVal) {H : AHeap} (hT : Rd H t (encTab T)) (nt : t ≠ b) (hb : H b = some (.cells (C [])))
    (step : ∀ (d : Int) (l : List Int) (H : AHeap) (K : AVal → AHeap → Prop), d ≠ 0 → l.length ≤ 1000000000000 → (∀ x ∈ l, x ≠ 0) → H b = some (.cells (C l)) → (∀ r, K r (H.put b (.cells (C (l ++ [d]))))) → ACalls Try.prog f [.i d, .ptr b 0] H K)
    {K : AVal → AHeap → Prop} (hK : K (.tup []) (H.put b (.cells (C (T.tells i T.room.toNat))))) :
    ACalls Try.prog 66 [.ptr t 0, .i i, .clo f [] [.ptr b 0]] H K := by
  refine acalls_body Try.func66 rfl rfl rfl ?_
  repeat (first | refine w1 rfl rfl ?_ | refine w2 rfl ?_ | refine w3 rfl rfl ?_ | refine w4 ?_ | refine w5 ?_ | refine w6 ?_ | refine w7 ?_ | refine w8 rfl ?_ | refine w9 rfl ?_ | refine wa ?_ | refine wd ?_ | refine we ?_ | refine wb ?_ | refine wc ?_ | refine wf ?_ | refine wg ?_ | refine wh ?_ | refine wi rfl ?_ | refine wj ?_ | refine wk ?_ | refine wl ?_ | refine wm ?_ | refine wn ?_)
  refine s_box rfl rfl rfl (fun b4 h4 => ?_)
  repeat (first | refine w1 rfl rfl ?_ | refine w2 rfl ?_ | refine w3 rfl rfl ?_ | refine w4 ?_ | refine w5 ?_ | refine w6 ?_ | refine w7 ?_ | refine w8 rfl ?_ | refine w9 rfl ?_ | refine wa ?_ | refine wd ?_ | refine we ?_ | refine wb ?_ | refine wc ?_ | refine wf ?_ | refine wg ?_ | refine wh ?_ | refine wi rfl ?_ | refine wj ?_ | refine wk ?_ | refine wl ?_ | refine wm ?_ | refine wn ?_)
  refine s_box rfl rfl rfl (fun b5 h5 => ?_)
  obtain ⟨n54, h5'⟩ := put_none h5
  have n4b : b4 ≠ b := (ne_of_get h4 hb).symm
  have n5b : b5 ≠ b := (ne_of_get h5' hb).symm
  have n4t : t ≠ b4 := by rcases hT with h | h <;> exact ne_of_get h4 h
  have n5t : t ≠ b5 := by rcases hT with h | h <;> exact ne_of_get h5' h
  have hstart : ((H.put b4 (.cells [.i i])).put b5 (.cells [.clo f [] [.ptr b 0]])) = ((H.put b4 (.cells [.i i])).put b5 (.cells [.clo f [] [.ptr b 0]])).put b (.cells (C [])) :=
    (put_id (by rw [put_ne (Ne.symm n5b), put_ne (Ne.symm n4b)]; exact hb)).symm
  rw [hstart]
  generalize hX : ((H.put b4 (.cells [.i i])).put b5 (.cells [.clo f [] [.ptr b 0]])) = X
  have x4 : X b4 = some (.cells [.i i]) := by rw [← hX, put_ne (Ne.symm n54), put_same]
  have x5 : X b5 = some (.cells [.clo f [] [.ptr b 0]]) := by rw [← hX, put_same]
  have xt : Rd X t (encTab T) := by unfold Rd; rw [← hX, put_ne n5t, put_ne n4t]; exact hT
  have xs : ∀ o, (H.put b o).sub (X.put b o) := fun o => AHeap.put_sub (by rw [← hX]; exact sub_new h5' (sub_new h4 (AHeap.sub_refl _))) b o
  repeat (first | refine w1 rfl rfl ?_ | refine w2 rfl ?_ | refine w3 rfl rfl ?_ | refine w4 ?_ | refine w5 ?_ | refine w6 ?_ | refine w7 ?_ | refine w8 rfl ?_ | refine w9 rfl ?_ | refine wa ?_ | refine wd ?_ | refine we ?_ | refine wb ?_ | refine wc ?_ | refine wf ?_ | refine wg ?_ | refine wh ?_ | refine wi rfl ?_ | refine wj ?_ | refine wk ?_ | refine wl ?_ | refine wm ?_ | refine wn ?_)
  refine s_call rfl rfl fk64 ?_
  refine each_c hw fk90 (fun k => X.put b (.cells (C (T.tells i k)))) (fun k => by unfold Rd; rw [put_ne nt]; exact xt) (fun k hk hh K hK => ?_) (fun k hh => ?_) ?_
  · refine ents1_c hw hf C hh (l := T.tells i k) (by unfold Rd; rw [put_ne nt]; exact xt) (put_same _ _ _) (.inl (by rw [put_ne n4b]; exact x4)) (.inl (by rw [put_ne n5b]; exact x5)) n4b n5b nt (fun l H K => step _ l H K (by omega)) ?_ (tells_ne T i k) (fun r => ?_)
    · have := tells_len hw i k
      have := hw.2.1
      omega
    · rw [put_put]
      have e : T.tells i (k + 1) = T.tells i k ++ T.tellsOf i k := by simp only [Tab.tells, hh, if_true]
      rw [← e]; exact hK r
  · have e : T.tells i (k + 1) = T.tells i k := by simp [Tab.tells, hh]
    rw [e]; exact AHeap.sub_refl _
  · repeat (first | refine w1 rfl rfl ?_ | refine w2 rfl ?_ | refine w3 rfl rfl ?_ | refine w4 ?_ | refine w5 ?_ | refine w6 ?_ | refine w7 ?_ | refine w8 rfl ?_ | refine w9 rfl ?_ | refine wa ?_ | refine wd ?_ | refine we ?_ | refine wb ?_ | refine wc ?_ | refine wf ?_ | refine wg ?_ | refine wh ?_ | refine wi rfl ?_ | refine wj ?_ | refine wk ?_ | refine wl ?_ | refine wm ?_ | refine wn ?_)
    exact rt0n rfl (xs _) hK
theorem links1_c {d : Int} {l : List Int} {b : Nat} {H : AHeap} (hl : l.length ≤ 1000000000000) (hb : H b = some (.cells [.i l.length])) {K : AVal → AHeap → Prop} (hK : ∀ r, K r (H.put b (.cells [.i (l ++ [d]).length]))) :
    ACalls Try.prog 67 [.i d, .ptr b 0] H K := by
  refine acalls_body Try.func67 rfl rfl rfl ?_
  repeat (first | refine w1 rfl rfl ?_ | refine w2 rfl ?_ | refine w3 rfl rfl ?_ | refine w4 ?_ | refine w5 ?_ | refine w6 ?_ | refine w7 ?_ | refine w8 rfl ?_ | refine w9 rfl ?_ | refine wa ?_ | refine wd ?_ | refine we ?_ | refine wb ?_ | refine wc ?_ | refine wf ?_ | refine wg ?_ | refine wh ?_ | refine wi rfl ?_ | refine wj ?_ | refine wk ?_ | refine wl ?_ | refine wm ?_ | refine wn ?_)
  refine s_load tk rfl rfl (.inl hb) rfl rfl ?_
  repeat (first | refine w1 rfl rfl ?_ | refine w2 rfl ?_ | refine w3 rfl rfl ?_ | refine w4 ?_ | refine w5 ?_ | refine w6 ?_ | refine w7 ?_ | refine w8 rfl ?_ | refine w9 rfl ?_ | refine wa ?_ | refine wd ?_ | refine we ?_ | refine wb ?_ | refine wc ?_ | refine wf ?_ | refine wg ?_ | refine wh ?_ | refine wi rfl ?_ | refine wj ?_ | refine wk ?_ | refine wl ?_ | refine wm ?_ | refine wn ?_)
  refine s_add rfl rfl rfl (by omega) ?_
  repeat (first | refine w1 rfl rfl ?_ | refine w2 rfl ?_ | refine w3 rfl rfl ?_ | refine w4 ?_ | refine w5 ?_ | refine w6 ?_ | refine w7 ?_ | refine w8 rfl ?_ | refine w9 rfl ?_ | refine wa ?_ | refine wd ?_ | refine we ?_ | refine wb ?_ | refine wc ?_ | refine wf ?_ | refine wg ?_ | refine wh ?_ | refine wi rfl ?_ | refine wj ?_ | refine wk ?_ | refine wl ?_ | refine wm ?_ | refine wn ?_)
  refine s_store tk rfl rfl hb rfl (ltb rfl) rfl ?_
  repeat (first | refine w1 rfl rfl ?_ | refine w2 rfl ?_ | refine w3 rfl rfl ?_ | refine w4 ?_ | refine w5 ?_ | refine w6 ?_ | refine w7 ?_ | refine w8 rfl ?_ | refine w9 rfl ?_ | refine wa ?_ | refine wd ?_ | refine we ?_ | refine wb ?_ | refine wc ?_ | refine wf ?_ | refine wg ?_ | refine wh ?_ | refine wi rfl ?_ | refine wj ?_ | refine wk ?_ | refine wl ?_ | refine wm ?_ | refine wn ?_)
  have e : (((l ++ [d]).length : Nat) : Int) = (l.length : Int) + 1 := by simp
  rw [e] at hK
  exact rt0n rfl (AHeap.sub_refl _) (hK _)
theorem links_c {t : Nat} {T : Tab} (hw : T.wf) {i : Int} {H : AHeap} (hT : Rd H t (encTab T)) {K : AVal → AHeap → Prop} (hK : K (.i (T.links i)) H) : ACalls Try.prog 21 [.ptr t 0, .i i] H K := by
  refine acalls_body Try.func21 rfl rfl rfl ?_
  repeat (first | refine w1 rfl rfl ?_ | refine w2 rfl ?_ | refine w3 rfl rfl ?_ | refine w4 ?_ | refine w5 ?_ | refine w6 ?_ | refine w7 ?_ | refine w8 rfl ?_ | refine w9 rfl ?_ | refine wa ?_ | refine wd ?_ | refine we ?_ | refine wb ?_ | refine wc ?_ | refine wf ?_ | refine wg ?_ | refine wh ?_ | refine wi rfl ?_ | refine wj ?_ | refine wk ?_ | refine wl ?_ | refine wm ?_ | refine wn ?_)
  refine s_alloc tk rfl rfl rfl (fun b hb => ?_)
  have hne : t ≠ b := by rcases hT with h | h <;> exact ne_of_get hb h
  repeat (first | refine w1 rfl rfl ?_ | refine w2 rfl ?_ | refine w3 rfl rfl ?_ | refine w4 ?_ | refine w5 ?_ | refine w6 ?_ | refine w7 ?_ | refine w8 rfl ?_ | refine w9 rfl ?_ | refine wa ?_ | refine wd ?_ | refine we ?_ | refine wb ?_ | refine wc ?_ | refine wf ?_ | refine wg ?_ | refine wh ?_ | refine wi rfl ?_ | refine wj ?_ | refine wk ?_ | refine wl ?_ | refine wm ?_ | refine wn ?_)
  refine s_store tk rfl rfl (put_same _ _ _) rfl (ltb rfl) rfl ?_
  rw [put_put]
  repeat (first | refine w1 rfl rfl ?_ | refine w2 rfl ?_ | refine w3 rfl rfl ?_ | refine w4 ?_ | refine w5 ?_ | refine w6 ?_ | refine w7 ?_ | refine w8 rfl ?_ | refine w9 rfl ?_ | refine wa ?_ | refine wd ?_ | refine we ?_ | refine wb ?_ | refine wc ?_ | refine wf ?_ | refine wg ?_ | refine wh ?_ | refine wi rfl ?_ | refine wj ?_ | refine wk ?_ | refine wl ?_ | refine wm ?_ | refine wn ?_)
  refine s_call rfl rfl fk66 ?_
  refine ents_c hw fk67 (fun l => [.i l.length]) (by unfold Rd; rw [put_ne hne]; exact hT) hne (put_same _ _ _) (fun d l H K _ hl _ hb hK => links1_c hl hb hK) ?_
  rw [put_put]
  repeat (first | refine w1 rfl rfl ?_ | refine w2 rfl ?_ | refine w3 rfl rfl ?_ | refine w4 ?_ | refine w5 ?_ | refine w6 ?_ | refine w7 ?_ | refine w8 rfl ?_ | refine w9 rfl ?_ | refine wa ?_ | refine wd ?_ | refine we ?_ | refine wb ?_ | refine wc ?_ | refine wf ?_ | refine wg ?_ | refine wh ?_ | refine wi rfl ?_ | refine wj ?_ | refine wk ?_ | refine wl ?_ | refine wm ?_ | refine wn ?_)
  refine s_load tk rfl rfl (.inl (put_same _ _ _)) rfl rfl ?_
  repeat (first | refine w1 rfl rfl ?_ | refine w2 rfl ?_ | refine w3 rfl rfl ?_ | refine w4 ?_ | refine w5 ?_ | refine w6 ?_ | refine w7 ?_ | refine w8 rfl ?_ | refine w9 rfl ?_ | refine wa ?_ | refine wd ?_ | refine we ?_ | refine wb ?_ | refine wc ?_ | refine wf ?_ | refine wg ?_ | refine wh ?_ | refine wi rfl ?_ | refine wj ?_ | refine wk ?_ | refine wl ?_ | refine wm ?_ | refine wn ?_)
  exact rt1 rfl rfl (.refl _) (sub_new hb (AHeap.sub_refl _)) hK
theorem parent1_c {d : Int} {l : List Int} {b : Nat} {H : AHeap} (hd : d ≠ 0) (hl : ∀ x ∈ l, x ≠ 0) (hb : H b = some (.cells [.i (l.headD 0)])) {K : AVal → AHeap → Prop} (hK : ∀ r, K r (H.put b (.cells [.i ((l ++ [d]).headD 0)]))) :
    ACalls Try.prog 68 [.i d, .ptr b 0] H K := by
  refine acalls_body Try.func68 rfl rfl rfl ?_
  repeat (first | refine w1 rfl rfl ?_ | refine w2 rfl ?_ | refine w3 rfl rfl ?_ | refine w4 ?_ | refine w5 ?_ | refine w6 ?_ | refine w7 ?_ | refine w8 rfl ?_ | refine w9 rfl ?_ | refine wa ?_ | refine wd ?_ | refine we ?_ | refine wb ?_ | refine wc ?_ | refine wf ?_ | refine wg ?_ | refine wh ?_ | refine wi rfl ?_ | refine wj ?_ | refine wk ?_ | refine wl ?_ | refine wm ?_ | refine wn ?_)
  refine s_load tk rfl rfl (.inl hb) rfl rfl ?_
  repeat (first | refine w1 rfl rfl ?_ | refine w2 rfl ?_ | refine w3 rfl rfl ?_ | refine w4 ?_ | refine w5 ?_ | refine w6 ?_ | refine w7 ?_ | refine w8 rfl ?_ | refine w9 rfl ?_ | refine wa ?_ | refine wd ?_ | refine we ?_ | refine wb ?_ | refine wc ?_ | refine wf ?_ | refine wg ?_ | refine wh ?_ | refine wi rfl ?_ | refine wj ?_ | refine wk ?_ | refine wl ?_ | refine wm ?_ | refine wn ?_)
  refine aw_cond rfl (fun g => ?_) (fun g => ?_)
  · have g' : l.headD 0 = 0 := of_decide_eq_true g
    have e : l = [] := by
      cases l with
      | nil => rfl
      | cons x l => exact absurd g' (hl x List.mem_cons_self)
    subst e
    repeat (first | refine w1 rfl rfl ?_ | refine w2 rfl ?_ | refine w3 rfl rfl ?_ | refine w4 ?_ | refine w5 ?_ | refine w6 ?_ | refine w7 ?_ | refine w8 rfl ?_ | refine w9 rfl ?_ | refine wa ?_ | refine wd ?_ | refine we ?_ | refine wb ?_ | refine wc ?_ | refine wf ?_ | refine wg ?_ | refine wh ?_ | refine wi rfl ?_ | refine wj ?_ | refine wk ?_ | refine wl ?_ | refine wm ?_ | refine wn ?_)
    refine s_store tk rfl rfl hb rfl (ltb rfl) rfl ?_
    repeat (first | refine w1 rfl rfl ?_ | refine w2 rfl ?_ | refine w3 rfl rfl ?_ | refine w4 ?_ | refine w5 ?_ | refine w6 ?_ | refine w7 ?_ | refine w8 rfl ?_ | refine w9 rfl ?_ | refine wa ?_ | refine wd ?_ | refine we ?_ | refine wb ?_ | refine wc ?_ | refine wf ?_ | refine wg ?_ | refine wh ?_ | refine wi rfl ?_ | refine wj ?_ | refine wk ?_ | refine wl ?_ | refine wm ?_ | refine wn ?_)
    exact rt0n rfl (AHeap.sub_refl _) (hK _)
  · have g' : ¬ l.headD 0 = 0 := of_decide_eq_false g
    have e : (l ++ [d]).headD 0 = l.headD 0 := by
      cases l with
      | nil => exact absurd rfl g'
      | cons x l => rfl
    rw [e, put_id hb] at hK
    repeat (first | refine w1 rfl rfl ?_ | refine w2 rfl ?_ | refine w3 rfl rfl ?_ | refine w4 ?_ | refine w5 ?_ | refine w6 ?_ | refine w7 ?_ | refine w8 rfl ?_ | refine w9 rfl ?_ | refine wa ?_ | refine wd ?_ | refine we ?_ | refine wb ?_ | refine wc ?_ | refine wf ?_ | refine wg ?_ | refine wh ?_ | refine wi rfl ?_ | refine wj ?_ | refine wk ?_ | refine wl ?_ | refine wm ?_ | refine wn ?_)
    exact rt0n rfl (AHeap.sub_refl _) (hK _)
theorem parent_c {t : Nat} {T : Tab} (hw : T.wf) {i : Int} {H : AHeap} (hT : Rd H t (encTab T)) {K : AVal → AHeap → Prop} (hK : K (.i (T.parent i)) H) : ACalls Try.prog 22 [.ptr t 0, .i i] H K := by
  refine acalls_body Try.func22 rfl rfl rfl ?_
  repeat (first | refine w1 rfl rfl ?_ | refine w2 rfl ?_ | refine w3 rfl rfl ?_ | refine w4 ?_ | refine w5 ?_ | refine w6 ?_ | refine w7 ?_ | refine w8 rfl ?_ | refine w9 rfl ?_ | refine wa ?_ | refine wd ?_ | refine we ?_ | refine wb ?_ | refine wc ?_ | refine wf ?_ | refine wg ?_ | refine wh ?_ | refine wi rfl ?_ | refine wj ?_ | refine wk ?_ | refine wl ?_ | refine wm ?_ | refine wn ?_)
  refine s_alloc tk rfl rfl rfl (fun b hb => ?_)
  have hne : t ≠ b := by rcases hT with h | h <;> exact ne_of_get hb h
  repeat (first | refine w1 rfl rfl ?_ | refine w2 rfl ?_ | refine w3 rfl rfl ?_ | refine w4 ?_ | refine w5 ?_ | refine w6 ?_ | refine w7 ?_ | refine w8 rfl ?_ | refine w9 rfl ?_ | refine wa ?_ | refine wd ?_ | refine we ?_ | refine wb ?_ | refine wc ?_ | refine wf ?_ | refine wg ?_ | refine wh ?_ | refine wi rfl ?_ | refine wj ?_ | refine wk ?_ | refine wl ?_ | refine wm ?_ | refine wn ?_)
  refine s_store tk rfl rfl (put_same _ _ _) rfl (ltb rfl) rfl ?_
  rw [put_put]
  repeat (first | refine w1 rfl rfl ?_ | refine w2 rfl ?_ | refine w3 rfl rfl ?_ | refine w4 ?_ | refine w5 ?_ | refine w6 ?_ | refine w7 ?_ | refine w8 rfl ?_ | refine w9 rfl ?_ | refine wa ?_ | refine wd ?_ | refine we ?_ | refine wb ?_ | refine wc ?_ | refine wf ?_ | refine wg ?_ | refine wh ?_ | refine wi rfl ?_ | refine wj ?_ | refine wk ?_ | refine wl ?_ | refine wm ?_ | refine wn ?_)
  refine s_call rfl rfl fk66 ?_
  refine ents_c hw fk68 (fun l => [.i (l.headD 0)]) (by unfold Rd; rw [put_ne hne]; exact hT) hne (put_same _ _ _) (fun d l H K hd _ hl hb hK => parent1_c hd hl hb hK) ?_
  rw [put_put]
  repeat (first | refine w1 rfl rfl ?_ | refine w2 rfl ?_ | refine w3 rfl rfl ?_ | refine w4 ?_ | refine w5 ?_ | refine w6 ?_ | refine w7 ?_ | refine w8 rfl ?_ | refine w9 rfl ?_ | refine wa ?_ | refine wd ?_ | refine we ?_ | refine wb ?_ | refine wc ?_ | refine wf ?_ | refine wg ?_ | refine wh ?_ | refine wi rfl ?_ | refine wj ?_ | refine wk ?_ | refine wl ?_ | refine wm ?_ | refine wn ?_)
  refine s_load tk rfl rfl (.inl (put_same _ _ _)) rfl rfl ?_
  repeat (first | refine w1 rfl rfl ?_ | refine w2 rfl ?_ | refine w3 rfl rfl ?_ | refine w4 ?_ | refine w5 ?_ | refine w6 ?_ | refine w7 ?_ | refine w8 rfl ?_ | refine w9 rfl ?_ | refine wa ?_ | refine wd ?_ | refine we ?_ | refine wb ?_ | refine wc ?_ | refine wf ?_ | refine wg ?_ | refine wh ?_ | refine wi rfl ?_ | refine wj ?_ | refine wk ?_ | refine wl ?_ | refine wm ?_ | refine wn ?_)
  exact rt1 rfl rfl (.refl _) (sub_new hb (AHeap.sub_refl _)) hK
end Abs
end Go.Proofs.Ytnjdkhfdjkjocaa
