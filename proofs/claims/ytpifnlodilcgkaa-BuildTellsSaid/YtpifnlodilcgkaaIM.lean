import Derived.Test.YtpifnlodilcgkaaQ10
set_option linter.unusedVariables false
namespace Go.Proofs.Ytpifnlodilcgkaa
namespace Abs
set_option linter.unusedSimpArgs false
set_option maxRecDepth 10000
set_option maxHeartbeats 2000000
attribute [local irreducible] AOps AW AP ACalls thenQ inBlk noGoto

/-! ### a node as the model has it: chapter 10 -/
theorem model10_c {n : Node} (hs : n.small) {H : AHeap} {K : AVal → AHeap → Prop} (hK : K (.agg (encM n)) H) : ACalls Try.prog 57 [.agg (encNode n)] H K := by
  refine acalls_body Try.func57 rfl rfl rfl ?_
  have le := ents_len n.ents
  have hs2 := hs.2
  repeat (first | refine w1 rfl rfl ?_ | refine w2 rfl ?_ | refine w3 rfl rfl ?_ | refine w4 ?_ | refine w5 ?_ | refine w6 ?_ | refine w7 ?_ | refine w8 rfl ?_ | refine w9 rfl ?_ | refine wa ?_ | refine wd ?_ | refine we ?_ | refine wb ?_ | refine wc ?_ | refine wf ?_ | refine wg ?_ | refine wh ?_ | refine wi rfl ?_ | refine wj ?_ | refine wk ?_ | refine wl ?_ | refine wm ?_ | refine wn ?_)
  refine s_box rfl rfl rfl (fun b1 h1 => ?_)
  repeat (first | refine w1 rfl rfl ?_ | refine w2 rfl ?_ | refine w3 rfl rfl ?_ | refine w4 ?_ | refine w5 ?_ | refine w6 ?_ | refine w7 ?_ | refine w8 rfl ?_ | refine w9 rfl ?_ | refine wa ?_ | refine wd ?_ | refine we ?_ | refine wb ?_ | refine wc ?_ | refine wf ?_ | refine wg ?_ | refine wh ?_ | refine wi rfl ?_ | refine wj ?_ | refine wk ?_ | refine wl ?_ | refine wm ?_ | refine wn ?_)
  refine s_alloc tk rfl rfl rfl (fun b2 h2 => ?_)
  obtain ⟨n21, h2'⟩ := put_none h2
  have r1 : ∀ o, Rd ((H.put b1 (.cells (encNode n))).put b2 o) b1 (encNode n) := fun o => .inl (by rw [put_ne (Ne.symm n21), put_same])
  repeat (first | refine w1 rfl rfl ?_ | refine w2 rfl ?_ | refine w3 rfl rfl ?_ | refine w4 ?_ | refine w5 ?_ | refine w6 ?_ | refine w7 ?_ | refine w8 rfl ?_ | refine w9 rfl ?_ | refine wa ?_ | refine wd ?_ | refine we ?_ | refine wb ?_ | refine wc ?_ | refine wf ?_ | refine wg ?_ | refine wh ?_ | refine wi rfl ?_ | refine wj ?_ | refine wk ?_ | refine wl ?_ | refine wm ?_ | refine wn ?_)
  refine s_load tk rfl rfl (r1 _) rfl rfl ?_
  repeat (first | refine w1 rfl rfl ?_ | refine w2 rfl ?_ | refine w3 rfl rfl ?_ | refine w4 ?_ | refine w5 ?_ | refine w6 ?_ | refine w7 ?_ | refine w8 rfl ?_ | refine w9 rfl ?_ | refine wa ?_ | refine wd ?_ | refine we ?_ | refine wb ?_ | refine wc ?_ | refine wf ?_ | refine wg ?_ | refine wh ?_ | refine wi rfl ?_ | refine wj ?_ | refine wk ?_ | refine wl ?_ | refine wm ?_ | refine wn ?_)
  refine s_load tk rfl rfl (r1 _) rfl rfl ?_
  repeat (first | refine w1 rfl rfl ?_ | refine w2 rfl ?_ | refine w3 rfl rfl ?_ | refine w4 ?_ | refine w5 ?_ | refine w6 ?_ | refine w7 ?_ | refine w8 rfl ?_ | refine w9 rfl ?_ | refine wa ?_ | refine wd ?_ | refine we ?_ | refine wb ?_ | refine wc ?_ | refine wf ?_ | refine wg ?_ | refine wh ?_ | refine wi rfl ?_ | refine wj ?_ | refine wk ?_ | refine wl ?_ | refine wm ?_ | refine wn ?_)
  refine s_load tk rfl rfl (r1 _) rfl rfl ?_
  repeat (first | refine w1 rfl rfl ?_ | refine w2 rfl ?_ | refine w3 rfl rfl ?_ | refine w4 ?_ | refine w5 ?_ | refine w6 ?_ | refine w7 ?_ | refine w8 rfl ?_ | refine w9 rfl ?_ | refine wa ?_ | refine wd ?_ | refine we ?_ | refine wb ?_ | refine wc ?_ | refine wf ?_ | refine wg ?_ | refine wh ?_ | refine wi rfl ?_ | refine wj ?_ | refine wk ?_ | refine wl ?_ | refine wm ?_ | refine wn ?_)
  refine s_load tk rfl rfl (r1 _) rfl rfl ?_
  repeat (first | refine w1 rfl rfl ?_ | refine w2 rfl ?_ | refine w3 rfl rfl ?_ | refine w4 ?_ | refine w5 ?_ | refine w6 ?_ | refine w7 ?_ | refine w8 rfl ?_ | refine w9 rfl ?_ | refine wa ?_ | refine wd ?_ | refine we ?_ | refine wb ?_ | refine wc ?_ | refine wf ?_ | refine wg ?_ | refine wh ?_ | refine wi rfl ?_ | refine wj ?_ | refine wk ?_ | refine wl ?_ | refine wm ?_ | refine wn ?_)
  refine s_load tk rfl rfl (r1 _) rfl rfl ?_
  repeat (first | refine w1 rfl rfl ?_ | refine w2 rfl ?_ | refine w3 rfl rfl ?_ | refine w4 ?_ | refine w5 ?_ | refine w6 ?_ | refine w7 ?_ | refine w8 rfl ?_ | refine w9 rfl ?_ | refine wa ?_ | refine wd ?_ | refine we ?_ | refine wb ?_ | refine wc ?_ | refine wf ?_ | refine wg ?_ | refine wh ?_ | refine wi rfl ?_ | refine wj ?_ | refine wk ?_ | refine wl ?_ | refine wm ?_ | refine wn ?_)
  refine s_str tk (s := n.data) rfl rfl rfl rfl rfl ?_
  repeat (first | refine w1 rfl rfl ?_ | refine w2 rfl ?_ | refine w3 rfl rfl ?_ | refine w4 ?_ | refine w5 ?_ | refine w6 ?_ | refine w7 ?_ | refine w8 rfl ?_ | refine w9 rfl ?_ | refine wa ?_ | refine wd ?_ | refine we ?_ | refine wb ?_ | refine wc ?_ | refine wf ?_ | refine wg ?_ | refine wh ?_ | refine wi rfl ?_ | refine wj ?_ | refine wk ?_ | refine wl ?_ | refine wm ?_ | refine wn ?_)
  refine s_load tk rfl rfl (r1 _) rfl rfl ?_
  repeat (first | refine w1 rfl rfl ?_ | refine w2 rfl ?_ | refine w3 rfl rfl ?_ | refine w4 ?_ | refine w5 ?_ | refine w6 ?_ | refine w7 ?_ | refine w8 rfl ?_ | refine w9 rfl ?_ | refine wa ?_ | refine wd ?_ | refine we ?_ | refine wb ?_ | refine wc ?_ | refine wf ?_ | refine wg ?_ | refine wh ?_ | refine wi rfl ?_ | refine wj ?_ | refine wk ?_ | refine wl ?_ | refine wm ?_ | refine wn ?_)
  refine s_build tk rfl rfl rfl rfl rfl rfl ?_
  repeat (first | refine w1 rfl rfl ?_ | refine w2 rfl ?_ | refine w3 rfl rfl ?_ | refine w4 ?_ | refine w5 ?_ | refine w6 ?_ | refine w7 ?_ | refine w8 rfl ?_ | refine w9 rfl ?_ | refine wa ?_ | refine wd ?_ | refine we ?_ | refine wb ?_ | refine wc ?_ | refine wf ?_ | refine wg ?_ | refine wh ?_ | refine wi rfl ?_ | refine wj ?_ | refine wk ?_ | refine wl ?_ | refine wm ?_ | refine wn ?_)
  refine s_alloc tk rfl rfl rfl (fun b3 h3 => ?_)
  repeat (first | refine w1 rfl rfl ?_ | refine w2 rfl ?_ | refine w3 rfl rfl ?_ | refine w4 ?_ | refine w5 ?_ | refine w6 ?_ | refine w7 ?_ | refine w8 rfl ?_ | refine w9 rfl ?_ | refine wa ?_ | refine wd ?_ | refine we ?_ | refine wb ?_ | refine wc ?_ | refine wf ?_ | refine wg ?_ | refine wh ?_ | refine wi rfl ?_ | refine wj ?_ | refine wk ?_ | refine wl ?_ | refine wm ?_ | refine wn ?_)
  refine s_storew tk rfl rfl (put_same _ _ _) rfl rfl rfl rfl ?_
  rw [put_put]
  obtain ⟨n32, h3'⟩ := put_none h3
  obtain ⟨n31, h3''⟩ := put_none h3'
  have hne : b1 ≠ b3 ∧ b2 ≠ b3 ∧ b2 ≠ b1 := ⟨fun e => n31 e.symm, fun e => n32 e.symm, n21⟩
  repeat (first | refine w1 rfl rfl ?_ | refine w2 rfl ?_ | refine w3 rfl rfl ?_ | refine w4 ?_ | refine w5 ?_ | refine w6 ?_ | refine w7 ?_ | refine w8 rfl ?_ | refine w9 rfl ?_ | refine wa ?_ | refine wd ?_ | refine we ?_ | refine wb ?_ | refine wc ?_ | refine wf ?_ | refine wg ?_ | refine wh ?_ | refine wi rfl ?_ | refine wj ?_ | refine wk ?_ | refine wl ?_ | refine wm ?_ | refine wn ?_)
  refine aw_loop (fun s : Nat × Own × Own × AHeap => s.1 ≤ n.ents.length ∧ MSt n b1 b2 b3 [.i 0, .i 0, .i 0, .i 0, .s ⟨#[]⟩, .sl [] .full, .sl [] .full, .s ⟨#[]⟩] H s.1 s.1 s.2.1 s.2.2.1 s.2.2.2) (fun s => [(1, .ptr b1 0), (2, .ptr b2 0), (3, .ptr b3 0), (4, .i s.1)]) (fun s => s.2.2.2) (fun s => n.ents.length - s.1)
    (0, .full, .full, ((H.put b1 (.cells (encNode n))).put b2 (.cells [.i 0, .i 0, .i 0, .i 0, .s ⟨#[]⟩, .sl [] .full, .sl [] .full, .s ⟨#[]⟩])).put b3 (.cells (midM n 0 0 .full .full))) ⟨Nat.zero_le _, ⟨.inl (show AHeap.put _ _ _ _ = _ by rw [put_ne hne.1, put_ne (Ne.symm n21), put_same]), (show AHeap.put _ _ _ _ = _ by rw [put_ne hne.2.1, put_same]), put_same _ _ _, trivial, trivial, trivial, trivial, fun b h => (by cases h), fun b h => (by cases h), fun b h => (by cases h), fun x hx => (show AHeap.put _ _ _ _ = _ by rw [put_ne (fun e : x = b3 => hx (by rw [e]; exact h3'')), put_ne (fun e : x = b2 => hx (by rw [e]; exact h2')), put_ne (fun e : x = b1 => hx (by rw [e]; exact h1))])⟩⟩
    (by repeat (first | exact Fr.sub_nil _ | refine Fr.sub_cons rfl ?_)) (AHeap.sub_refl _) ?_
  rintro ⟨k, o1, o2, Y⟩ ⟨hk, hm⟩
  simp only at hk hm
  repeat (first | refine w1 rfl rfl ?_ | refine w2 rfl ?_ | refine w3 rfl rfl ?_ | refine w4 ?_ | refine w5 ?_ | refine w6 ?_ | refine w7 ?_ | refine w8 rfl ?_ | refine w9 rfl ?_ | refine wa ?_ | refine wd ?_ | refine we ?_ | refine wb ?_ | refine wc ?_ | refine wf ?_ | refine wg ?_ | refine wh ?_ | refine wi rfl ?_ | refine wj ?_ | refine wk ?_ | refine wl ?_ | refine wm ?_ | refine wn ?_)
  refine s_load tk rfl rfl hm.node rfl rfl ?_
  repeat (first | refine w1 rfl rfl ?_ | refine w2 rfl ?_ | refine w3 rfl rfl ?_ | refine w4 ?_ | refine w5 ?_ | refine w6 ?_ | refine w7 ?_ | refine w8 rfl ?_ | refine w9 rfl ?_ | refine wa ?_ | refine wd ?_ | refine we ?_ | refine wb ?_ | refine wc ?_ | refine wf ?_ | refine wg ?_ | refine wh ?_ | refine wi rfl ?_ | refine wj ?_ | refine wk ?_ | refine wl ?_ | refine wm ?_ | refine wn ?_)
  refine aw_cond rfl (fun c => ?_) (fun c => ?_)
  · have c' : k < n.ents.length := by have := of_decide_eq_true c; omega
    have hget : (n.ents.map encEnt)[(k : Int).toNat]? = some (encEnt n.ents[k]) := by simp [c']
    have hn11 : tokB o1 ≠ some b1 := fun e => (hm.new1 b1 e).2.1 rfl
    have hn13 : tokB o1 ≠ some b3 := fun e => (hm.new1 b3 e).2.2.2 rfl
    repeat (first | refine w1 rfl rfl ?_ | refine w2 rfl ?_ | refine w3 rfl rfl ?_ | refine w4 ?_ | refine w5 ?_ | refine w6 ?_ | refine w7 ?_ | refine w8 rfl ?_ | refine w9 rfl ?_ | refine wa ?_ | refine wd ?_ | refine we ?_ | refine wb ?_ | refine wc ?_ | refine wf ?_ | refine wg ?_ | refine wh ?_ | refine wi rfl ?_ | refine wj ?_ | refine wk ?_ | refine wl ?_ | refine wm ?_ | refine wn ?_)
    refine aw_prot [b1] (allc hm.node (allc0 _)) ?_
    have hro := prot_get (bs := [b1]) (List.mem_singleton.2 rfl) hm.node
    have hp1 : (Y.prot [b1]) b1 = some (.ro (encNode n)) := hro
    have hp3 : (Y.prot [b1]) b3 = some (.cells (midM n k k o1 o2)) := by rw [prot_other (by simpa using Ne.symm hne.1)]; exact hm.mid
    refine aw_plan mixed (.take 0 (.take 2 (.take 3 (.take 4 (.take 5 (.take 6 (.take 7 (.two 1 8 (.one 8 (.one 9 (.take 10 (.one 11 .done)))) (.one 1 (.one 9 (.take 10 (.one 11 .done)))))))))))) (by kernel_rfl) ?_
    repeat (first | refine d1 rfl rfl rfl rfl ?_ | refine d2 rfl rfl rfl ?_ | refine d3 ?_ | refine d5 rfl rfl rfl ?_ | refine d_ro rfl rfl rfl rfl (by assumption) rfl rfl ?_ | refine d_ept rfl rfl rfl rfl rfl rfl ?_)
    refine d_index rfl rfl rfl rfl rfl rfl (by omega) hget rfl ?_
    repeat (first | refine d1 rfl rfl rfl rfl ?_ | refine d2 rfl rfl rfl ?_ | refine d3 ?_ | refine d5 rfl rfl rfl ?_ | refine d_ro rfl rfl rfl rfl (by assumption) rfl rfl ?_ | refine d_ept rfl rfl rfl rfl rfl rfl ?_)
    refine d_two rfl rfl ?_ ?_
    · refine s_load tk rfl rfl (.inl hp3) rfl rfl ?_
      refine w4 ?_
      refine d4 rfl ?_
      refine s_bslice tk rfl rfl rfl rfl rfl rfl (uni_one1 _) (by decide) ?_
      refine w4 ?_
      refine d4 rfl ?_
      refine s_append tk rfl rfl rfl rfl rfl (uni_names _) (uni_one1 _) rfl (owned_prot hm.own1 hn11) hm.es1 (by rw [names_len, List.length_take]; simp only [List.length_cons, List.length_nil]; omega) (fun o' ha he => ?_)
      rw [take_names c']
      refine w4 ?_
      have n3 : tokB o' ≠ some b3 := apart_ne ha hp3 hn13
      repeat (first | refine d1 rfl rfl rfl rfl ?_ | refine d2 rfl rfl rfl ?_ | refine d3 ?_ | refine d5 rfl rfl rfl ?_ | refine d_ro rfl rfl rfl rfl (by assumption) rfl rfl ?_ | refine d_ept rfl rfl rfl rfl rfl rfl ?_)
      refine d4 rfl ?_
      refine s_store tk rfl rfl (by rw [free_own_get hn13 n3]; exact hp3) rfl (ltb rfl) rfl ?_
      refine w4 ?_
      repeat (first | refine d1 rfl rfl rfl rfl ?_ | refine d2 rfl rfl rfl ?_ | refine d3 ?_ | refine d5 rfl rfl rfl ?_ | refine d_ro rfl rfl rfl rfl (by assumption) rfl rfl ?_ | refine d_ept rfl rfl rfl rfl rfl rfl ?_)
      refine ⟨fun b hb => ?_, ?_⟩
      · have e1 := List.mem_singleton.1 hb
        subst e1
        rw [put_ne hne.1, free_own_get hn11 (apart_ne ha hp1 hn11)]
      have hm' := mst_step1 (Ne.symm hne.2.2) hne.1 hne.2.1 hm h1 h2' h3'' ha he
      have hn11 : tokB o2 ≠ some b1 := fun e => (hm'.new2 b1 e).2.1 rfl
      have hn13 : tokB o2 ≠ some b3 := fun e => (hm'.new2 b3 e).2.2.2 rfl
      rw [show (List.set (midM n k k o1 o2) 5 (.sl (encNames (n.ents.take (k + 1))) o')) = midM n (k + 1) k o' o2 from rfl]
      generalize ((((Y.prot [b1]).free o1).own o').put b3 (.cells (midM n (k + 1) k o' o2))).back Y [b1] = Z at hm' ⊢
      repeat (first | refine w1 rfl rfl ?_ | refine w2 rfl ?_ | refine w3 rfl rfl ?_ | refine w4 ?_ | refine w5 ?_ | refine w6 ?_ | refine w7 ?_ | refine w8 rfl ?_ | refine w9 rfl ?_ | refine wa ?_ | refine wd ?_ | refine we ?_ | refine wb ?_ | refine wc ?_ | refine wf ?_ | refine wg ?_ | refine wh ?_ | refine wi rfl ?_ | refine wj ?_ | refine wk ?_ | refine wl ?_ | refine wm ?_ | refine wn ?_)
      refine aw_prot [b1] (allc hm'.node (allc0 _)) ?_
      have hro' := prot_get (bs := [b1]) (List.mem_singleton.2 rfl) hm'.node
      have hp1 : (Z.prot [b1]) b1 = some (.ro (encNode n)) := hro'
      have hp3 : (Z.prot [b1]) b3 = some (.cells (midM n (k + 1) k o' o2)) := by rw [prot_other (by simpa using Ne.symm hne.1)]; exact hm'.mid
      refine aw_plan mixed (.take 0 (.take 2 (.take 3 (.take 4 (.take 5 (.take 6 (.take 7 (.two 1 8 (.one 8 (.one 9 (.take 10 (.one 11 .done)))) (.one 1 (.one 9 (.take 10 (.one 11 .done)))))))))))) (by kernel_rfl) ?_
      repeat (first | refine d1 rfl rfl rfl rfl ?_ | refine d2 rfl rfl rfl ?_ | refine d3 ?_ | refine d5 rfl rfl rfl ?_ | refine d_ro rfl rfl rfl rfl (by assumption) rfl rfl ?_ | refine d_ept rfl rfl rfl rfl rfl rfl ?_)
      refine d_index rfl rfl rfl rfl rfl rfl (by omega) hget rfl ?_
      repeat (first | refine d1 rfl rfl rfl rfl ?_ | refine d2 rfl rfl rfl ?_ | refine d3 ?_ | refine d5 rfl rfl rfl ?_ | refine d_ro rfl rfl rfl rfl (by assumption) rfl rfl ?_ | refine d_ept rfl rfl rfl rfl rfl rfl ?_)
      refine d_two rfl rfl ?_ ?_
      · refine s_load tk rfl rfl (.inl hp3) rfl rfl ?_
        refine w4 ?_
        refine d4 rfl ?_
        refine s_bslice tk rfl rfl rfl rfl rfl rfl (uni_one1 _) (by decide) ?_
        refine w4 ?_
        refine d4 rfl ?_
        refine s_append tk rfl rfl rfl rfl rfl (uni_kids _) (uni_one1 _) rfl (owned_prot hm'.own2 hn11) hm'.es2 (by rw [kids_len, List.length_take]; simp only [List.length_cons, List.length_nil]; omega) (fun p' hb he2 => ?_)
        rw [take_kids c']
        refine w4 ?_
        have n3 : tokB p' ≠ some b3 := apart_ne hb hp3 hn13
        repeat (first | refine d1 rfl rfl rfl rfl ?_ | refine d2 rfl rfl rfl ?_ | refine d3 ?_ | refine d5 rfl rfl rfl ?_ | refine d_ro rfl rfl rfl rfl (by assumption) rfl rfl ?_ | refine d_ept rfl rfl rfl rfl rfl rfl ?_)
        refine d4 rfl ?_
        refine s_store tk rfl rfl (by rw [free_own_get hn13 n3]; exact hp3) rfl (ltb rfl) rfl ?_
        refine w4 ?_
        repeat (first | refine d1 rfl rfl rfl rfl ?_ | refine d2 rfl rfl rfl ?_ | refine d3 ?_ | refine d5 rfl rfl rfl ?_ | refine d_ro rfl rfl rfl rfl (by assumption) rfl rfl ?_ | refine d_ept rfl rfl rfl rfl rfl rfl ?_)
        refine ⟨fun b hb' => ?_, ?_⟩
        · have e1 := List.mem_singleton.1 hb'
          subst e1
          rw [put_ne hne.1, free_own_get hn11 (apart_ne hb hp1 hn11)]
        have hm2 := mst_step2 (Ne.symm hne.2.2) hne.1 hne.2.1 hm' h1 h2' h3'' hb he2
        rw [show (List.set (midM n (k + 1) k o' o2) 6 (.sl (encKids (n.ents.take (k + 1))) p')) = midM n (k + 1) (k + 1) o' p' from rfl]
        generalize ((((Z.prot [b1]).free o2).own p').put b3 (.cells (midM n (k + 1) (k + 1) o' p'))).back Z [b1] = V at hm2 ⊢
        repeat (first | refine w1 rfl rfl ?_ | refine w2 rfl ?_ | refine w3 rfl rfl ?_ | refine w4 ?_ | refine w5 ?_ | refine w6 ?_ | refine w7 ?_ | refine w8 rfl ?_ | refine w9 rfl ?_ | refine wa ?_ | refine wd ?_ | refine we ?_ | refine wb ?_ | refine wc ?_ | refine wf ?_ | refine wg ?_ | refine wh ?_ | refine wi rfl ?_ | refine wj ?_ | refine wk ?_ | refine wl ?_ | refine wm ?_ | refine wn ?_)
        refine s_add rfl rfl rfl (by omega) ?_
        repeat (first | refine w1 rfl rfl ?_ | refine w2 rfl ?_ | refine w3 rfl rfl ?_ | refine w4 ?_ | refine w5 ?_ | refine w6 ?_ | refine w7 ?_ | refine w8 rfl ?_ | refine w9 rfl ?_ | refine wa ?_ | refine wd ?_ | refine we ?_ | refine wb ?_ | refine wc ?_ | refine wf ?_ | refine wg ?_ | refine wh ?_ | refine wi rfl ?_ | refine wj ?_ | refine wk ?_ | refine wl ?_ | refine wm ?_ | refine wn ?_)
        exact ⟨(k + 1, o', p', V), ⟨c', hm2⟩, by simp only; omega, (by repeat (first | exact Fr.sub_nil _ | refine Fr.sub_cons rfl ?_)), AHeap.sub_refl _⟩
      · refine s_bslice tk rfl rfl rfl rfl rfl rfl (uni_one1 _) (by decide) ?_
        refine w4 ?_
        refine d4 rfl ?_
        refine s_load tk rfl rfl (.inl hp3) rfl rfl ?_
        refine w4 ?_
        refine d4 rfl ?_
        refine s_append tk rfl rfl rfl rfl rfl (uni_kids _) (uni_one1 _) rfl (owned_prot hm'.own2 hn11) hm'.es2 (by rw [kids_len, List.length_take]; simp only [List.length_cons, List.length_nil]; omega) (fun p' hb he2 => ?_)
        rw [take_kids c']
        refine w4 ?_
        have n3 : tokB p' ≠ some b3 := apart_ne hb hp3 hn13
        repeat (first | refine d1 rfl rfl rfl rfl ?_ | refine d2 rfl rfl rfl ?_ | refine d3 ?_ | refine d5 rfl rfl rfl ?_ | refine d_ro rfl rfl rfl rfl (by assumption) rfl rfl ?_ | refine d_ept rfl rfl rfl rfl rfl rfl ?_)
        refine d4 rfl ?_
        refine s_store tk rfl rfl (by rw [free_own_get hn13 n3]; exact hp3) rfl (ltb rfl) rfl ?_
        refine w4 ?_
        repeat (first | refine d1 rfl rfl rfl rfl ?_ | refine d2 rfl rfl rfl ?_ | refine d3 ?_ | refine d5 rfl rfl rfl ?_ | refine d_ro rfl rfl rfl rfl (by assumption) rfl rfl ?_ | refine d_ept rfl rfl rfl rfl rfl rfl ?_)
        refine ⟨fun b hb' => ?_, ?_⟩
        · have e1 := List.mem_singleton.1 hb'
          subst e1
          rw [put_ne hne.1, free_own_get hn11 (apart_ne hb hp1 hn11)]
        have hm2 := mst_step2 (Ne.symm hne.2.2) hne.1 hne.2.1 hm' h1 h2' h3'' hb he2
        rw [show (List.set (midM n (k + 1) k o' o2) 6 (.sl (encKids (n.ents.take (k + 1))) p')) = midM n (k + 1) (k + 1) o' p' from rfl]
        generalize ((((Z.prot [b1]).free o2).own p').put b3 (.cells (midM n (k + 1) (k + 1) o' p'))).back Z [b1] = V at hm2 ⊢
        repeat (first | refine w1 rfl rfl ?_ | refine w2 rfl ?_ | refine w3 rfl rfl ?_ | refine w4 ?_ | refine w5 ?_ | refine w6 ?_ | refine w7 ?_ | refine w8 rfl ?_ | refine w9 rfl ?_ | refine wa ?_ | refine wd ?_ | refine we ?_ | refine wb ?_ | refine wc ?_ | refine wf ?_ | refine wg ?_ | refine wh ?_ | refine wi rfl ?_ | refine wj ?_ | refine wk ?_ | refine wl ?_ | refine wm ?_ | refine wn ?_)
        refine s_add rfl rfl rfl (by omega) ?_
        repeat (first | refine w1 rfl rfl ?_ | refine w2 rfl ?_ | refine w3 rfl rfl ?_ | refine w4 ?_ | refine w5 ?_ | refine w6 ?_ | refine w7 ?_ | refine w8 rfl ?_ | refine w9 rfl ?_ | refine wa ?_ | refine wd ?_ | refine we ?_ | refine wb ?_ | refine wc ?_ | refine wf ?_ | refine wg ?_ | refine wh ?_ | refine wi rfl ?_ | refine wj ?_ | refine wk ?_ | refine wl ?_ | refine wm ?_ | refine wn ?_)
        exact ⟨(k + 1, o', p', V), ⟨c', hm2⟩, by simp only; omega, (by repeat (first | exact Fr.sub_nil _ | refine Fr.sub_cons rfl ?_)), AHeap.sub_refl _⟩
    · refine s_bslice tk rfl rfl rfl rfl rfl rfl (uni_one1 _) (by decide) ?_
      refine w4 ?_
      refine d4 rfl ?_
      refine s_load tk rfl rfl (.inl hp3) rfl rfl ?_
      refine w4 ?_
      refine d4 rfl ?_
      refine s_append tk rfl rfl rfl rfl rfl (uni_names _) (uni_one1 _) rfl (owned_prot hm.own1 hn11) hm.es1 (by rw [names_len, List.length_take]; simp only [List.length_cons, List.length_nil]; omega) (fun o' ha he => ?_)
      rw [take_names c']
      refine w4 ?_
      have n3 : tokB o' ≠ some b3 := apart_ne ha hp3 hn13
      repeat (first | refine d1 rfl rfl rfl rfl ?_ | refine d2 rfl rfl rfl ?_ | refine d3 ?_ | refine d5 rfl rfl rfl ?_ | refine d_ro rfl rfl rfl rfl (by assumption) rfl rfl ?_ | refine d_ept rfl rfl rfl rfl rfl rfl ?_)
      refine d4 rfl ?_
      refine s_store tk rfl rfl (by rw [free_own_get hn13 n3]; exact hp3) rfl (ltb rfl) rfl ?_
      refine w4 ?_
      repeat (first | refine d1 rfl rfl rfl rfl ?_ | refine d2 rfl rfl rfl ?_ | refine d3 ?_ | refine d5 rfl rfl rfl ?_ | refine d_ro rfl rfl rfl rfl (by assumption) rfl rfl ?_ | refine d_ept rfl rfl rfl rfl rfl rfl ?_)
      refine ⟨fun b hb => ?_, ?_⟩
      · have e1 := List.mem_singleton.1 hb
        subst e1
        rw [put_ne hne.1, free_own_get hn11 (apart_ne ha hp1 hn11)]
      have hm' := mst_step1 (Ne.symm hne.2.2) hne.1 hne.2.1 hm h1 h2' h3'' ha he
      have hn11 : tokB o2 ≠ some b1 := fun e => (hm'.new2 b1 e).2.1 rfl
      have hn13 : tokB o2 ≠ some b3 := fun e => (hm'.new2 b3 e).2.2.2 rfl
      rw [show (List.set (midM n k k o1 o2) 5 (.sl (encNames (n.ents.take (k + 1))) o')) = midM n (k + 1) k o' o2 from rfl]
      generalize ((((Y.prot [b1]).free o1).own o').put b3 (.cells (midM n (k + 1) k o' o2))).back Y [b1] = Z at hm' ⊢
      repeat (first | refine w1 rfl rfl ?_ | refine w2 rfl ?_ | refine w3 rfl rfl ?_ | refine w4 ?_ | refine w5 ?_ | refine w6 ?_ | refine w7 ?_ | refine w8 rfl ?_ | refine w9 rfl ?_ | refine wa ?_ | refine wd ?_ | refine we ?_ | refine wb ?_ | refine wc ?_ | refine wf ?_ | refine wg ?_ | refine wh ?_ | refine wi rfl ?_ | refine wj ?_ | refine wk ?_ | refine wl ?_ | refine wm ?_ | refine wn ?_)
      refine aw_prot [b1] (allc hm'.node (allc0 _)) ?_
      have hro' := prot_get (bs := [b1]) (List.mem_singleton.2 rfl) hm'.node
      have hp1 : (Z.prot [b1]) b1 = some (.ro (encNode n)) := hro'
      have hp3 : (Z.prot [b1]) b3 = some (.cells (midM n (k + 1) k o' o2)) := by rw [prot_other (by simpa using Ne.symm hne.1)]; exact hm'.mid
      refine aw_plan mixed (.take 0 (.take 2 (.take 3 (.take 4 (.take 5 (.take 6 (.take 7 (.two 1 8 (.one 8 (.one 9 (.take 10 (.one 11 .done)))) (.one 1 (.one 9 (.take 10 (.one 11 .done)))))))))))) (by kernel_rfl) ?_
      repeat (first | refine d1 rfl rfl rfl rfl ?_ | refine d2 rfl rfl rfl ?_ | refine d3 ?_ | refine d5 rfl rfl rfl ?_ | refine d_ro rfl rfl rfl rfl (by assumption) rfl rfl ?_ | refine d_ept rfl rfl rfl rfl rfl rfl ?_)
      refine d_index rfl rfl rfl rfl rfl rfl (by omega) hget rfl ?_
      repeat (first | refine d1 rfl rfl rfl rfl ?_ | refine d2 rfl rfl rfl ?_ | refine d3 ?_ | refine d5 rfl rfl rfl ?_ | refine d_ro rfl rfl rfl rfl (by assumption) rfl rfl ?_ | refine d_ept rfl rfl rfl rfl rfl rfl ?_)
      refine d_two rfl rfl ?_ ?_
      · refine s_load tk rfl rfl (.inl hp3) rfl rfl ?_
        refine w4 ?_
        refine d4 rfl ?_
        refine s_bslice tk rfl rfl rfl rfl rfl rfl (uni_one1 _) (by decide) ?_
        refine w4 ?_
        refine d4 rfl ?_
        refine s_append tk rfl rfl rfl rfl rfl (uni_kids _) (uni_one1 _) rfl (owned_prot hm'.own2 hn11) hm'.es2 (by rw [kids_len, List.length_take]; simp only [List.length_cons, List.length_nil]; omega) (fun p' hb he2 => ?_)
        rw [take_kids c']
        refine w4 ?_
        have n3 : tokB p' ≠ some b3 := apart_ne hb hp3 hn13
        repeat (first | refine d1 rfl rfl rfl rfl ?_ | refine d2 rfl rfl rfl ?_ | refine d3 ?_ | refine d5 rfl rfl rfl ?_ | refine d_ro rfl rfl rfl rfl (by assumption) rfl rfl ?_ | refine d_ept rfl rfl rfl rfl rfl rfl ?_)
        refine d4 rfl ?_
        refine s_store tk rfl rfl (by rw [free_own_get hn13 n3]; exact hp3) rfl (ltb rfl) rfl ?_
        refine w4 ?_
        repeat (first | refine d1 rfl rfl rfl rfl ?_ | refine d2 rfl rfl rfl ?_ | refine d3 ?_ | refine d5 rfl rfl rfl ?_ | refine d_ro rfl rfl rfl rfl (by assumption) rfl rfl ?_ | refine d_ept rfl rfl rfl rfl rfl rfl ?_)
        refine ⟨fun b hb' => ?_, ?_⟩
        · have e1 := List.mem_singleton.1 hb'
          subst e1
          rw [put_ne hne.1, free_own_get hn11 (apart_ne hb hp1 hn11)]
        have hm2 := mst_step2 (Ne.symm hne.2.2) hne.1 hne.2.1 hm' h1 h2' h3'' hb he2
        rw [show (List.set (midM n (k + 1) k o' o2) 6 (.sl (encKids (n.ents.take (k + 1))) p')) = midM n (k + 1) (k + 1) o' p' from rfl]
        generalize ((((Z.prot [b1]).free o2).own p').put b3 (.cells (midM n (k + 1) (k + 1) o' p'))).back Z [b1] = V at hm2 ⊢
        repeat (first | refine w1 rfl rfl ?_ | refine w2 rfl ?_ | refine w3 rfl rfl ?_ | refine w4 ?_ | refine w5 ?_ | refine w6 ?_ | refine w7 ?_ | refine w8 rfl ?_ | refine w9 rfl ?_ | refine wa ?_ | refine wd ?_ | refine we ?_ | refine wb ?_ | refine wc ?_ | refine wf ?_ | refine wg ?_ | refine wh ?_ | refine wi rfl ?_ | refine wj ?_ | refine wk ?_ | refine wl ?_ | refine wm ?_ | refine wn ?_)
        refine s_add rfl rfl rfl (by omega) ?_
        repeat (first | refine w1 rfl rfl ?_ | refine w2 rfl ?_ | refine w3 rfl rfl ?_ | refine w4 ?_ | refine w5 ?_ | refine w6 ?_ | refine w7 ?_ | refine w8 rfl ?_ | refine w9 rfl ?_ | refine wa ?_ | refine wd ?_ | refine we ?_ | refine wb ?_ | refine wc ?_ | refine wf ?_ | refine wg ?_ | refine wh ?_ | refine wi rfl ?_ | refine wj ?_ | refine wk ?_ | refine wl ?_ | refine wm ?_ | refine wn ?_)
        exact ⟨(k + 1, o', p', V), ⟨c', hm2⟩, by simp only; omega, (by repeat (first | exact Fr.sub_nil _ | refine Fr.sub_cons rfl ?_)), AHeap.sub_refl _⟩
      · refine s_bslice tk rfl rfl rfl rfl rfl rfl (uni_one1 _) (by decide) ?_
        refine w4 ?_
        refine d4 rfl ?_
        refine s_load tk rfl rfl (.inl hp3) rfl rfl ?_
        refine w4 ?_
        refine d4 rfl ?_
        refine s_append tk rfl rfl rfl rfl rfl (uni_kids _) (uni_one1 _) rfl (owned_prot hm'.own2 hn11) hm'.es2 (by rw [kids_len, List.length_take]; simp only [List.length_cons, List.length_nil]; omega) (fun p' hb he2 => ?_)
        rw [take_kids c']
        refine w4 ?_
        have n3 : tokB p' ≠ some b3 := apart_ne hb hp3 hn13
        repeat (first | refine d1 rfl rfl rfl rfl ?_ | refine d2 rfl rfl rfl ?_ | refine d3 ?_ | refine d5 rfl rfl rfl ?_ | refine d_ro rfl rfl rfl rfl (by assumption) rfl rfl ?_ | refine d_ept rfl rfl rfl rfl rfl rfl ?_)
        refine d4 rfl ?_
        refine s_store tk rfl rfl (by rw [free_own_get hn13 n3]; exact hp3) rfl (ltb rfl) rfl ?_
        refine w4 ?_
        repeat (first | refine d1 rfl rfl rfl rfl ?_ | refine d2 rfl rfl rfl ?_ | refine d3 ?_ | refine d5 rfl rfl rfl ?_ | refine d_ro rfl rfl rfl rfl (by assumption) rfl rfl ?_ | refine d_ept rfl rfl rfl rfl rfl rfl ?_)
        refine ⟨fun b hb' => ?_, ?_⟩
        · have e1 := List.mem_singleton.1 hb'
          subst e1
          rw [put_ne hne.1, free_own_get hn11 (apart_ne hb hp1 hn11)]
        have hm2 := mst_step2 (Ne.symm hne.2.2) hne.1 hne.2.1 hm' h1 h2' h3'' hb he2
        rw [show (List.set (midM n (k + 1) k o' o2) 6 (.sl (encKids (n.ents.take (k + 1))) p')) = midM n (k + 1) (k + 1) o' p' from rfl]
        generalize ((((Z.prot [b1]).free o2).own p').put b3 (.cells (midM n (k + 1) (k + 1) o' p'))).back Z [b1] = V at hm2 ⊢
        repeat (first | refine w1 rfl rfl ?_ | refine w2 rfl ?_ | refine w3 rfl rfl ?_ | refine w4 ?_ | refine w5 ?_ | refine w6 ?_ | refine w7 ?_ | refine w8 rfl ?_ | refine w9 rfl ?_ | refine wa ?_ | refine wd ?_ | refine we ?_ | refine wb ?_ | refine wc ?_ | refine wf ?_ | refine wg ?_ | refine wh ?_ | refine wi rfl ?_ | refine wj ?_ | refine wk ?_ | refine wl ?_ | refine wm ?_ | refine wn ?_)
        refine s_add rfl rfl rfl (by omega) ?_
        repeat (first | refine w1 rfl rfl ?_ | refine w2 rfl ?_ | refine w3 rfl rfl ?_ | refine w4 ?_ | refine w5 ?_ | refine w6 ?_ | refine w7 ?_ | refine w8 rfl ?_ | refine w9 rfl ?_ | refine wa ?_ | refine wd ?_ | refine we ?_ | refine wb ?_ | refine wc ?_ | refine wf ?_ | refine wg ?_ | refine wh ?_ | refine wi rfl ?_ | refine wj ?_ | refine wk ?_ | refine wl ?_ | refine wm ?_ | refine wn ?_)
        exact ⟨(k + 1, o', p', V), ⟨c', hm2⟩, by simp only; omega, (by repeat (first | exact Fr.sub_nil _ | refine Fr.sub_cons rfl ?_)), AHeap.sub_refl _⟩
  · have hke : k = n.ents.length := by have := of_decide_eq_false c; omega
    subst hke
    repeat (first | refine w1 rfl rfl ?_ | refine w2 rfl ?_ | refine w3 rfl rfl ?_ | refine w4 ?_ | refine w5 ?_ | refine w6 ?_ | refine w7 ?_ | refine w8 rfl ?_ | refine w9 rfl ?_ | refine wa ?_ | refine wd ?_ | refine we ?_ | refine wb ?_ | refine wc ?_ | refine wf ?_ | refine wg ?_ | refine wh ?_ | refine wi rfl ?_ | refine wj ?_ | refine wk ?_ | refine wl ?_ | refine wm ?_ | refine wn ?_)
    refine s_loadw tk rfl rfl (.inl hm.mid) rfl rfl ?_
    repeat (first | refine w1 rfl rfl ?_ | refine w2 rfl ?_ | refine w3 rfl rfl ?_ | refine w4 ?_ | refine w5 ?_ | refine w6 ?_ | refine w7 ?_ | refine w8 rfl ?_ | refine w9 rfl ?_ | refine wa ?_ | refine wd ?_ | refine we ?_ | refine wb ?_ | refine wc ?_ | refine wf ?_ | refine wg ?_ | refine wh ?_ | refine wi rfl ?_ | refine wj ?_ | refine wk ?_ | refine wl ?_ | refine wm ?_ | refine wn ?_)
    refine s_storew tk rfl rfl hm.res rfl rfl rfl rfl ?_
    repeat (first | refine w1 rfl rfl ?_ | refine w2 rfl ?_ | refine w3 rfl rfl ?_ | refine w4 ?_ | refine w5 ?_ | refine w6 ?_ | refine w7 ?_ | refine w8 rfl ?_ | refine w9 rfl ?_ | refine wa ?_ | refine wd ?_ | refine we ?_ | refine wb ?_ | refine wc ?_ | refine wf ?_ | refine wg ?_ | refine wh ?_ | refine wi rfl ?_ | refine wj ?_ | refine wk ?_ | refine wl ?_ | refine wm ?_ | refine wn ?_)
    refine rt1c rfl rfl (.inl (put_same _ _ _)) rfl rfl (wk_agg (l' := encM n) (by rw [midM, List.take_length]; rfl)) (fun x o hx => ?_) hK
    have hxn : H x ≠ none := by rw [hx]; simp
    refine ⟨o, ?_, .refl o⟩
    rw [put_ne (fun e : x = b2 => hxn (by rw [e]; exact h2'))]; exact (hm.sub x hxn).trans hx
end Abs
end Go.Proofs.Ytpifnlodilcgkaa
