import Derived.Test.YtnjdkhfdjkjocaaN1
set_option linter.unusedVariables false
namespace Go.Proofs.Ytnjdkhfdjkjocaa
namespace Abs
set_option maxRecDepth 10000

/-! ### package node: Right, Same -/
def nodeOk (n : Node) : Bool :=
  decide (0 ≤ n.mode) && decide (n.mode ≤ 4095) && idOk n.uid && idOk n.gid &&
    (if n.kind = 1 then decide (n.ents.length = 0) && decide (n.target = ⟨#[]⟩) && decide (n.data.size ≤ 48)
    else if n.kind = 2 then decide (n.data.size = 0) && decide (n.target = ⟨#[]⟩) && rising n.ents
    else if n.kind = 3 then decide (n.data.size + n.ents.length = 0) && decide (n.mode = 511) && fitsOk n.target
    else false)
theorem encBytes_len (s : ByteArray) : (encBytes s).length = s.size := by simp [encBytes]
theorem ents_len (l : List Ent) : (l.map encEnt).length = l.length := by simp

theorem right_c {n : Node} {H : AHeap} {K : AVal → AHeap → Prop} (hs : n.small) (hK : K (.b (nodeOk n)) H) : ACalls Try.prog 61 [.agg (encNode n)] H K := by
  refine acalls_body Try.func61 rfl rfl rfl ?_
  repeat (first | refine w1 rfl rfl ?_ | refine w2 rfl ?_ | refine w3 rfl rfl ?_ | refine w4 ?_ | refine w5 ?_ | refine w6 ?_ | refine w7 ?_ | refine w8 rfl ?_ | refine w9 rfl ?_ | refine wa ?_ | refine wd ?_ | refine we ?_ | refine wb ?_ | refine wc ?_ | refine wf ?_ | refine wg ?_ | refine wh ?_ | refine wi rfl ?_ | refine wj ?_ | refine wk ?_ | refine wl ?_ | refine wm ?_ | refine wn ?_)
  refine s_box rfl rfl rfl (fun b1 h1 => ?_)
  have hb : Rd (H.put b1 (.cells (encNode n))) b1 (encNode n) := .inl (put_same _ _ _)
  have hsub : H.sub (H.put b1 (.cells (encNode n))) := sub_new h1 (AHeap.sub_refl _)
  repeat (first | refine w1 rfl rfl ?_ | refine w2 rfl ?_ | refine w3 rfl rfl ?_ | refine w4 ?_ | refine w5 ?_ | refine w6 ?_ | refine w7 ?_ | refine w8 rfl ?_ | refine w9 rfl ?_ | refine wa ?_ | refine wd ?_ | refine we ?_ | refine wb ?_ | refine wc ?_ | refine wf ?_ | refine wg ?_ | refine wh ?_ | refine wi rfl ?_ | refine wj ?_ | refine wk ?_ | refine wl ?_ | refine wm ?_ | refine wn ?_ | refine s_load tk rfl rfl (by assumption) rfl rfl ?_ | refine s_ept tk rfl rfl rfl rfl ?_)
  refine s_gsplit rfl rfl (fun g1 => ?_) (fun g1 => ?_)
  · repeat (first | refine w1 rfl rfl ?_ | refine w2 rfl ?_ | refine w3 rfl rfl ?_ | refine w4 ?_ | refine w5 ?_ | refine w6 ?_ | refine w7 ?_ | refine w8 rfl ?_ | refine w9 rfl ?_ | refine wa ?_ | refine wd ?_ | refine we ?_ | refine wb ?_ | refine wc ?_ | refine wf ?_ | refine wg ?_ | refine wh ?_ | refine wi rfl ?_ | refine wj ?_ | refine wk ?_ | refine wl ?_ | refine wm ?_ | refine wn ?_ | refine s_load tk rfl rfl (by assumption) rfl rfl ?_ | refine s_ept tk rfl rfl rfl rfl ?_)
    refine rt1 rfl rfl (.refl _) hsub ?_
    have : nodeOk n = false := by have : ¬ 0 ≤ n.mode := by simp at g1; omega
                                  simp [nodeOk, this]
    rw [← this]; exact hK
  repeat (first | refine w1 rfl rfl ?_ | refine w2 rfl ?_ | refine w3 rfl rfl ?_ | refine w4 ?_ | refine w5 ?_ | refine w6 ?_ | refine w7 ?_ | refine w8 rfl ?_ | refine w9 rfl ?_ | refine wa ?_ | refine wd ?_ | refine we ?_ | refine wb ?_ | refine wc ?_ | refine wf ?_ | refine wg ?_ | refine wh ?_ | refine wi rfl ?_ | refine wj ?_ | refine wk ?_ | refine wl ?_ | refine wm ?_ | refine wn ?_ | refine s_load tk rfl rfl (by assumption) rfl rfl ?_ | refine s_ept tk rfl rfl rfl rfl ?_)
  have e1 : decide (0 ≤ n.mode) = true := by simp at g1 ⊢; omega
  refine s_gsplit rfl rfl (fun g2 => ?_) (fun g2 => ?_)
  · repeat (first | refine w1 rfl rfl ?_ | refine w2 rfl ?_ | refine w3 rfl rfl ?_ | refine w4 ?_ | refine w5 ?_ | refine w6 ?_ | refine w7 ?_ | refine w8 rfl ?_ | refine w9 rfl ?_ | refine wa ?_ | refine wd ?_ | refine we ?_ | refine wb ?_ | refine wc ?_ | refine wf ?_ | refine wg ?_ | refine wh ?_ | refine wi rfl ?_ | refine wj ?_ | refine wk ?_ | refine wl ?_ | refine wm ?_ | refine wn ?_ | refine s_load tk rfl rfl (by assumption) rfl rfl ?_ | refine s_ept tk rfl rfl rfl rfl ?_)
    refine rt1 rfl rfl (.refl _) hsub ?_
    have : nodeOk n = false := by have : ¬ n.mode ≤ 4095 := by simp at g2; omega
                                  simp [nodeOk, this]
    rw [← this]; exact hK
  repeat (first | refine w1 rfl rfl ?_ | refine w2 rfl ?_ | refine w3 rfl rfl ?_ | refine w4 ?_ | refine w5 ?_ | refine w6 ?_ | refine w7 ?_ | refine w8 rfl ?_ | refine w9 rfl ?_ | refine wa ?_ | refine wd ?_ | refine we ?_ | refine wb ?_ | refine wc ?_ | refine wf ?_ | refine wg ?_ | refine wh ?_ | refine wi rfl ?_ | refine wj ?_ | refine wk ?_ | refine wl ?_ | refine wm ?_ | refine wn ?_ | refine s_load tk rfl rfl (by assumption) rfl rfl ?_ | refine s_ept tk rfl rfl rfl rfl ?_)
  have e2 : decide (n.mode ≤ 4095) = true := by simp at g2 ⊢; omega
  refine s_call rfl rfl fk85 ?_
  refine id_c ?_
  repeat (first | refine w1 rfl rfl ?_ | refine w2 rfl ?_ | refine w3 rfl rfl ?_ | refine w4 ?_ | refine w5 ?_ | refine w6 ?_ | refine w7 ?_ | refine w8 rfl ?_ | refine w9 rfl ?_ | refine wa ?_ | refine wd ?_ | refine we ?_ | refine wb ?_ | refine wc ?_ | refine wf ?_ | refine wg ?_ | refine wh ?_ | refine wi rfl ?_ | refine wj ?_ | refine wk ?_ | refine wl ?_ | refine wm ?_ | refine wn ?_ | refine s_load tk rfl rfl (by assumption) rfl rfl ?_ | refine s_ept tk rfl rfl rfl rfl ?_)
  refine s_gsplit rfl rfl (fun g3 => ?_) (fun g3 => ?_)
  · repeat (first | refine w1 rfl rfl ?_ | refine w2 rfl ?_ | refine w3 rfl rfl ?_ | refine w4 ?_ | refine w5 ?_ | refine w6 ?_ | refine w7 ?_ | refine w8 rfl ?_ | refine w9 rfl ?_ | refine wa ?_ | refine wd ?_ | refine we ?_ | refine wb ?_ | refine wc ?_ | refine wf ?_ | refine wg ?_ | refine wh ?_ | refine wi rfl ?_ | refine wj ?_ | refine wk ?_ | refine wl ?_ | refine wm ?_ | refine wn ?_ | refine s_load tk rfl rfl (by assumption) rfl rfl ?_ | refine s_ept tk rfl rfl rfl rfl ?_)
    refine rt1 rfl rfl (.refl _) hsub ?_
    have : nodeOk n = false := by simp at g3; simp [nodeOk, g3]
    rw [← this]; exact hK
  repeat (first | refine w1 rfl rfl ?_ | refine w2 rfl ?_ | refine w3 rfl rfl ?_ | refine w4 ?_ | refine w5 ?_ | refine w6 ?_ | refine w7 ?_ | refine w8 rfl ?_ | refine w9 rfl ?_ | refine wa ?_ | refine wd ?_ | refine we ?_ | refine wb ?_ | refine wc ?_ | refine wf ?_ | refine wg ?_ | refine wh ?_ | refine wi rfl ?_ | refine wj ?_ | refine wk ?_ | refine wl ?_ | refine wm ?_ | refine wn ?_ | refine s_load tk rfl rfl (by assumption) rfl rfl ?_ | refine s_ept tk rfl rfl rfl rfl ?_)
  have e3 : idOk n.uid = true := by simpa using g3
  refine s_call rfl rfl fk85 ?_
  refine id_c ?_
  repeat (first | refine w1 rfl rfl ?_ | refine w2 rfl ?_ | refine w3 rfl rfl ?_ | refine w4 ?_ | refine w5 ?_ | refine w6 ?_ | refine w7 ?_ | refine w8 rfl ?_ | refine w9 rfl ?_ | refine wa ?_ | refine wd ?_ | refine we ?_ | refine wb ?_ | refine wc ?_ | refine wf ?_ | refine wg ?_ | refine wh ?_ | refine wi rfl ?_ | refine wj ?_ | refine wk ?_ | refine wl ?_ | refine wm ?_ | refine wn ?_ | refine s_load tk rfl rfl (by assumption) rfl rfl ?_ | refine s_ept tk rfl rfl rfl rfl ?_)
  refine aw_cond rfl (fun g4 => ?_) (fun g4 => ?_)
  · repeat (first | refine w1 rfl rfl ?_ | refine w2 rfl ?_ | refine w3 rfl rfl ?_ | refine w4 ?_ | refine w5 ?_ | refine w6 ?_ | refine w7 ?_ | refine w8 rfl ?_ | refine w9 rfl ?_ | refine wa ?_ | refine wd ?_ | refine we ?_ | refine wb ?_ | refine wc ?_ | refine wf ?_ | refine wg ?_ | refine wh ?_ | refine wi rfl ?_ | refine wj ?_ | refine wk ?_ | refine wl ?_ | refine wm ?_ | refine wn ?_ | refine s_load tk rfl rfl (by assumption) rfl rfl ?_ | refine s_ept tk rfl rfl rfl rfl ?_)
    refine rt1 rfl rfl (.refl _) hsub ?_
    have : nodeOk n = false := by simp at g4; simp [nodeOk, g4]
    rw [← this]; exact hK
  have e4 : idOk n.gid = true := by simpa using g4
  have hok : nodeOk n = (if n.kind = 1 then decide (n.ents.length = 0) && decide (n.target = ⟨#[]⟩) && decide (n.data.size ≤ 48)
    else if n.kind = 2 then decide (n.data.size = 0) && decide (n.target = ⟨#[]⟩) && rising n.ents
    else if n.kind = 3 then decide (n.data.size + n.ents.length = 0) && decide (n.mode = 511) && fitsOk n.target
    else false) := by simp only [nodeOk, e1, e2, e3, e4, Bool.true_and]
  have l1 := encBytes_len n.data
  have l2 := ents_len n.ents
  repeat (first | refine w1 rfl rfl ?_ | refine w2 rfl ?_ | refine w3 rfl rfl ?_ | refine w4 ?_ | refine w5 ?_ | refine w6 ?_ | refine w7 ?_ | refine w8 rfl ?_ | refine w9 rfl ?_ | refine wa ?_ | refine wd ?_ | refine we ?_ | refine wb ?_ | refine wc ?_ | refine wf ?_ | refine wg ?_ | refine wh ?_ | refine wi rfl ?_ | refine wj ?_ | refine wk ?_ | refine wl ?_ | refine wm ?_ | refine wn ?_ | refine s_load tk rfl rfl (by assumption) rfl rfl ?_ | refine s_ept tk rfl rfl rfl rfl ?_)
  refine aw_cond rfl (fun k1 => ?_) (fun k1 => ?_)
  · have k1 : n.kind = 1 := by simpa using k1
    rw [if_pos k1] at hok
    repeat (first | refine w1 rfl rfl ?_ | refine w2 rfl ?_ | refine w3 rfl rfl ?_ | refine w4 ?_ | refine w5 ?_ | refine w6 ?_ | refine w7 ?_ | refine w8 rfl ?_ | refine w9 rfl ?_ | refine wa ?_ | refine wd ?_ | refine we ?_ | refine wb ?_ | refine wc ?_ | refine wf ?_ | refine wg ?_ | refine wh ?_ | refine wi rfl ?_ | refine wj ?_ | refine wk ?_ | refine wl ?_ | refine wm ?_ | refine wn ?_ | refine s_load tk rfl rfl (by assumption) rfl rfl ?_ | refine s_ept tk rfl rfl rfl rfl ?_)
    refine s_gsplit rfl rfl (fun g5 => ?_) (fun g5 => ?_)
    · repeat (first | refine w1 rfl rfl ?_ | refine w2 rfl ?_ | refine w3 rfl rfl ?_ | refine w4 ?_ | refine w5 ?_ | refine w6 ?_ | refine w7 ?_ | refine w8 rfl ?_ | refine w9 rfl ?_ | refine wa ?_ | refine wd ?_ | refine we ?_ | refine wb ?_ | refine wc ?_ | refine wf ?_ | refine wg ?_ | refine wh ?_ | refine wi rfl ?_ | refine wj ?_ | refine wk ?_ | refine wl ?_ | refine wm ?_ | refine wn ?_ | refine s_load tk rfl rfl (by assumption) rfl rfl ?_ | refine s_ept tk rfl rfl rfl rfl ?_)
      refine s_gsplit rfl rfl (fun g6 => ?_) (fun g6 => ?_)
      · repeat (first | refine w1 rfl rfl ?_ | refine w2 rfl ?_ | refine w3 rfl rfl ?_ | refine w4 ?_ | refine w5 ?_ | refine w6 ?_ | refine w7 ?_ | refine w8 rfl ?_ | refine w9 rfl ?_ | refine wa ?_ | refine wd ?_ | refine we ?_ | refine wb ?_ | refine wc ?_ | refine wf ?_ | refine wg ?_ | refine wh ?_ | refine wi rfl ?_ | refine wj ?_ | refine wk ?_ | refine wl ?_ | refine wm ?_ | refine wn ?_ | refine s_load tk rfl rfl (by assumption) rfl rfl ?_ | refine s_ept tk rfl rfl rfl rfl ?_)
        refine rt1 rfl rfl (.refl _) hsub ?_
        have : nodeOk n = decide (((encBytes n.data).length : Int) ≤ 48) := by
          have : n.ents = [] := by simpa using g5
          have g6 : n.target = ⟨#[]⟩ := by simpa using g6
          rw [hok, l1, this, g6]; simp; omega
        rw [← this]; exact hK
      · repeat (first | refine w1 rfl rfl ?_ | refine w2 rfl ?_ | refine w3 rfl rfl ?_ | refine w4 ?_ | refine w5 ?_ | refine w6 ?_ | refine w7 ?_ | refine w8 rfl ?_ | refine w9 rfl ?_ | refine wa ?_ | refine wd ?_ | refine we ?_ | refine wb ?_ | refine wc ?_ | refine wf ?_ | refine wg ?_ | refine wh ?_ | refine wi rfl ?_ | refine wj ?_ | refine wk ?_ | refine wl ?_ | refine wm ?_ | refine wn ?_ | refine s_load tk rfl rfl (by assumption) rfl rfl ?_ | refine s_ept tk rfl rfl rfl rfl ?_)
        refine rt1 rfl rfl (.refl _) hsub ?_
        have : nodeOk n = false := by
          have g6 : ¬ n.target = ⟨#[]⟩ := by simpa using g6
          rw [hok]; simp [g6]
        rw [← this]; exact hK
    · repeat (first | refine w1 rfl rfl ?_ | refine w2 rfl ?_ | refine w3 rfl rfl ?_ | refine w4 ?_ | refine w5 ?_ | refine w6 ?_ | refine w7 ?_ | refine w8 rfl ?_ | refine w9 rfl ?_ | refine wa ?_ | refine wd ?_ | refine we ?_ | refine wb ?_ | refine wc ?_ | refine wf ?_ | refine wg ?_ | refine wh ?_ | refine wi rfl ?_ | refine wj ?_ | refine wk ?_ | refine wl ?_ | refine wm ?_ | refine wn ?_ | refine s_load tk rfl rfl (by assumption) rfl rfl ?_ | refine s_ept tk rfl rfl rfl rfl ?_)
      refine rt1 rfl rfl (.refl _) hsub ?_
      have : nodeOk n = false := by
        have g5 : ¬ n.ents = [] := by simpa using g5
        rw [hok]; simp [g5]
      rw [← this]; exact hK
  have k1 : ¬ n.kind = 1 := by simpa using k1
  rw [if_neg k1] at hok
  repeat (first | refine w1 rfl rfl ?_ | refine w2 rfl ?_ | refine w3 rfl rfl ?_ | refine w4 ?_ | refine w5 ?_ | refine w6 ?_ | refine w7 ?_ | refine w8 rfl ?_ | refine w9 rfl ?_ | refine wa ?_ | refine wd ?_ | refine we ?_ | refine wb ?_ | refine wc ?_ | refine wf ?_ | refine wg ?_ | refine wh ?_ | refine wi rfl ?_ | refine wj ?_ | refine wk ?_ | refine wl ?_ | refine wm ?_ | refine wn ?_ | refine s_load tk rfl rfl (by assumption) rfl rfl ?_ | refine s_ept tk rfl rfl rfl rfl ?_)
  refine aw_cond rfl (fun k2 => ?_) (fun k2 => ?_)
  · have k2 : n.kind = 2 := by simpa using k2
    rw [if_pos k2] at hok
    repeat (first | refine w1 rfl rfl ?_ | refine w2 rfl ?_ | refine w3 rfl rfl ?_ | refine w4 ?_ | refine w5 ?_ | refine w6 ?_ | refine w7 ?_ | refine w8 rfl ?_ | refine w9 rfl ?_ | refine wa ?_ | refine wd ?_ | refine we ?_ | refine wb ?_ | refine wc ?_ | refine wf ?_ | refine wg ?_ | refine wh ?_ | refine wi rfl ?_ | refine wj ?_ | refine wk ?_ | refine wl ?_ | refine wm ?_ | refine wn ?_ | refine s_load tk rfl rfl (by assumption) rfl rfl ?_ | refine s_ept tk rfl rfl rfl rfl ?_)
    refine s_gsplit rfl rfl (fun g5 => ?_) (fun g5 => ?_)
    · have g5 : n.data.size = 0 := by rw [l1] at g5; simpa using g5
      repeat (first | refine w1 rfl rfl ?_ | refine w2 rfl ?_ | refine w3 rfl rfl ?_ | refine w4 ?_ | refine w5 ?_ | refine w6 ?_ | refine w7 ?_ | refine w8 rfl ?_ | refine w9 rfl ?_ | refine wa ?_ | refine wd ?_ | refine we ?_ | refine wb ?_ | refine wc ?_ | refine wf ?_ | refine wg ?_ | refine wh ?_ | refine wi rfl ?_ | refine wj ?_ | refine wk ?_ | refine wl ?_ | refine wm ?_ | refine wn ?_ | refine s_load tk rfl rfl (by assumption) rfl rfl ?_ | refine s_ept tk rfl rfl rfl rfl ?_)
      refine s_gsplit rfl rfl (fun g6 => ?_) (fun g6 => ?_)
      · have g6 : n.target = ⟨#[]⟩ := by simpa using g6
        repeat (first | refine w1 rfl rfl ?_ | refine w2 rfl ?_ | refine w3 rfl rfl ?_ | refine w4 ?_ | refine w5 ?_ | refine w6 ?_ | refine w7 ?_ | refine w8 rfl ?_ | refine w9 rfl ?_ | refine wa ?_ | refine wd ?_ | refine we ?_ | refine wb ?_ | refine wc ?_ | refine wf ?_ | refine wg ?_ | refine wh ?_ | refine wi rfl ?_ | refine wj ?_ | refine wk ?_ | refine wl ?_ | refine wm ?_ | refine wn ?_ | refine s_load tk rfl rfl (by assumption) rfl rfl ?_ | refine s_ept tk rfl rfl rfl rfl ?_)
        refine s_call rfl rfl fk86 ?_
        refine rising_c hs.2 ?_
        repeat (first | refine w1 rfl rfl ?_ | refine w2 rfl ?_ | refine w3 rfl rfl ?_ | refine w4 ?_ | refine w5 ?_ | refine w6 ?_ | refine w7 ?_ | refine w8 rfl ?_ | refine w9 rfl ?_ | refine wa ?_ | refine wd ?_ | refine we ?_ | refine wb ?_ | refine wc ?_ | refine wf ?_ | refine wg ?_ | refine wh ?_ | refine wi rfl ?_ | refine wj ?_ | refine wk ?_ | refine wl ?_ | refine wm ?_ | refine wn ?_ | refine s_load tk rfl rfl (by assumption) rfl rfl ?_ | refine s_ept tk rfl rfl rfl rfl ?_)
        refine rt1 rfl rfl (.refl _) hsub ?_
        have : nodeOk n = rising n.ents := by rw [hok, g5, g6]; simp
        rw [← this]; exact hK
      · have g6 : ¬ n.target = ⟨#[]⟩ := by simpa using g6
        repeat (first | refine w1 rfl rfl ?_ | refine w2 rfl ?_ | refine w3 rfl rfl ?_ | refine w4 ?_ | refine w5 ?_ | refine w6 ?_ | refine w7 ?_ | refine w8 rfl ?_ | refine w9 rfl ?_ | refine wa ?_ | refine wd ?_ | refine we ?_ | refine wb ?_ | refine wc ?_ | refine wf ?_ | refine wg ?_ | refine wh ?_ | refine wi rfl ?_ | refine wj ?_ | refine wk ?_ | refine wl ?_ | refine wm ?_ | refine wn ?_ | refine s_load tk rfl rfl (by assumption) rfl rfl ?_ | refine s_ept tk rfl rfl rfl rfl ?_)
        refine rt1 rfl rfl (.refl _) hsub ?_
        have : nodeOk n = false := by rw [hok]; simp [g6]
        rw [← this]; exact hK
    · have g5 : ¬ n.data.size = 0 := by rw [l1] at g5; simpa using g5
      repeat (first | refine w1 rfl rfl ?_ | refine w2 rfl ?_ | refine w3 rfl rfl ?_ | refine w4 ?_ | refine w5 ?_ | refine w6 ?_ | refine w7 ?_ | refine w8 rfl ?_ | refine w9 rfl ?_ | refine wa ?_ | refine wd ?_ | refine we ?_ | refine wb ?_ | refine wc ?_ | refine wf ?_ | refine wg ?_ | refine wh ?_ | refine wi rfl ?_ | refine wj ?_ | refine wk ?_ | refine wl ?_ | refine wm ?_ | refine wn ?_ | refine s_load tk rfl rfl (by assumption) rfl rfl ?_ | refine s_ept tk rfl rfl rfl rfl ?_)
      refine rt1 rfl rfl (.refl _) hsub ?_
      have : nodeOk n = false := by rw [hok, decide_eq_false g5]; rfl
      rw [← this]; exact hK
  have k2 : ¬ n.kind = 2 := by simpa using k2
  rw [if_neg k2] at hok
  repeat (first | refine w1 rfl rfl ?_ | refine w2 rfl ?_ | refine w3 rfl rfl ?_ | refine w4 ?_ | refine w5 ?_ | refine w6 ?_ | refine w7 ?_ | refine w8 rfl ?_ | refine w9 rfl ?_ | refine wa ?_ | refine wd ?_ | refine we ?_ | refine wb ?_ | refine wc ?_ | refine wf ?_ | refine wg ?_ | refine wh ?_ | refine wi rfl ?_ | refine wj ?_ | refine wk ?_ | refine wl ?_ | refine wm ?_ | refine wn ?_ | refine s_load tk rfl rfl (by assumption) rfl rfl ?_ | refine s_ept tk rfl rfl rfl rfl ?_)
  refine aw_cond rfl (fun k3 => ?_) (fun k3 => ?_)
  · have k3 : n.kind = 3 := by simpa using k3
    rw [if_pos k3] at hok
    repeat (first | refine w1 rfl rfl ?_ | refine w2 rfl ?_ | refine w3 rfl rfl ?_ | refine w4 ?_ | refine w5 ?_ | refine w6 ?_ | refine w7 ?_ | refine w8 rfl ?_ | refine w9 rfl ?_ | refine wa ?_ | refine wd ?_ | refine we ?_ | refine wb ?_ | refine wc ?_ | refine wf ?_ | refine wg ?_ | refine wh ?_ | refine wi rfl ?_ | refine wj ?_ | refine wk ?_ | refine wl ?_ | refine wm ?_ | refine wn ?_ | refine s_load tk rfl rfl (by assumption) rfl rfl ?_ | refine s_ept tk rfl rfl rfl rfl ?_)
    refine s_add rfl rfl rfl (by rw [l1, l2]; have := hs.1; have := hs.2; omega) ?_
    repeat (first | refine w1 rfl rfl ?_ | refine w2 rfl ?_ | refine w3 rfl rfl ?_ | refine w4 ?_ | refine w5 ?_ | refine w6 ?_ | refine w7 ?_ | refine w8 rfl ?_ | refine w9 rfl ?_ | refine wa ?_ | refine wd ?_ | refine we ?_ | refine wb ?_ | refine wc ?_ | refine wf ?_ | refine wg ?_ | refine wh ?_ | refine wi rfl ?_ | refine wj ?_ | refine wk ?_ | refine wl ?_ | refine wm ?_ | refine wn ?_ | refine s_load tk rfl rfl (by assumption) rfl rfl ?_ | refine s_ept tk rfl rfl rfl rfl ?_)
    refine s_gsplit rfl rfl (fun g5 => ?_) (fun g5 => ?_)
    · have g5 : n.data.size + n.ents.length = 0 := by rw [l1, l2] at g5; have := of_decide_eq_true g5; omega
      repeat (first | refine w1 rfl rfl ?_ | refine w2 rfl ?_ | refine w3 rfl rfl ?_ | refine w4 ?_ | refine w5 ?_ | refine w6 ?_ | refine w7 ?_ | refine w8 rfl ?_ | refine w9 rfl ?_ | refine wa ?_ | refine wd ?_ | refine we ?_ | refine wb ?_ | refine wc ?_ | refine wf ?_ | refine wg ?_ | refine wh ?_ | refine wi rfl ?_ | refine wj ?_ | refine wk ?_ | refine wl ?_ | refine wm ?_ | refine wn ?_ | refine s_load tk rfl rfl (by assumption) rfl rfl ?_ | refine s_ept tk rfl rfl rfl rfl ?_)
      refine s_gsplit rfl rfl (fun g6 => ?_) (fun g6 => ?_)
      · have g6 : n.mode = 511 := by simpa using g6
        repeat (first | refine w1 rfl rfl ?_ | refine w2 rfl ?_ | refine w3 rfl rfl ?_ | refine w4 ?_ | refine w5 ?_ | refine w6 ?_ | refine w7 ?_ | refine w8 rfl ?_ | refine w9 rfl ?_ | refine wa ?_ | refine wd ?_ | refine we ?_ | refine wb ?_ | refine wc ?_ | refine wf ?_ | refine wg ?_ | refine wh ?_ | refine wi rfl ?_ | refine wj ?_ | refine wk ?_ | refine wl ?_ | refine wm ?_ | refine wn ?_ | refine s_load tk rfl rfl (by assumption) rfl rfl ?_ | refine s_ept tk rfl rfl rfl rfl ?_)
        refine s_call rfl rfl fk87 ?_
        refine fits_c ?_
        repeat (first | refine w1 rfl rfl ?_ | refine w2 rfl ?_ | refine w3 rfl rfl ?_ | refine w4 ?_ | refine w5 ?_ | refine w6 ?_ | refine w7 ?_ | refine w8 rfl ?_ | refine w9 rfl ?_ | refine wa ?_ | refine wd ?_ | refine we ?_ | refine wb ?_ | refine wc ?_ | refine wf ?_ | refine wg ?_ | refine wh ?_ | refine wi rfl ?_ | refine wj ?_ | refine wk ?_ | refine wl ?_ | refine wm ?_ | refine wn ?_ | refine s_load tk rfl rfl (by assumption) rfl rfl ?_ | refine s_ept tk rfl rfl rfl rfl ?_)
        refine rt1 rfl rfl (.refl _) hsub ?_
        have : nodeOk n = fitsOk n.target := by rw [hok, g5, g6]; simp
        rw [← this]; exact hK
      · have g6 : ¬ n.mode = 511 := by simpa using g6
        repeat (first | refine w1 rfl rfl ?_ | refine w2 rfl ?_ | refine w3 rfl rfl ?_ | refine w4 ?_ | refine w5 ?_ | refine w6 ?_ | refine w7 ?_ | refine w8 rfl ?_ | refine w9 rfl ?_ | refine wa ?_ | refine wd ?_ | refine we ?_ | refine wb ?_ | refine wc ?_ | refine wf ?_ | refine wg ?_ | refine wh ?_ | refine wi rfl ?_ | refine wj ?_ | refine wk ?_ | refine wl ?_ | refine wm ?_ | refine wn ?_ | refine s_load tk rfl rfl (by assumption) rfl rfl ?_ | refine s_ept tk rfl rfl rfl rfl ?_)
        refine rt1 rfl rfl (.refl _) hsub ?_
        have : nodeOk n = false := by rw [hok]; simp [g6]
        rw [← this]; exact hK
    · have g5 : ¬ n.data.size + n.ents.length = 0 := by rw [l1, l2] at g5; have := of_decide_eq_false g5; omega
      repeat (first | refine w1 rfl rfl ?_ | refine w2 rfl ?_ | refine w3 rfl rfl ?_ | refine w4 ?_ | refine w5 ?_ | refine w6 ?_ | refine w7 ?_ | refine w8 rfl ?_ | refine w9 rfl ?_ | refine wa ?_ | refine wd ?_ | refine we ?_ | refine wb ?_ | refine wc ?_ | refine wf ?_ | refine wg ?_ | refine wh ?_ | refine wi rfl ?_ | refine wj ?_ | refine wk ?_ | refine wl ?_ | refine wm ?_ | refine wn ?_ | refine s_load tk rfl rfl (by assumption) rfl rfl ?_ | refine s_ept tk rfl rfl rfl rfl ?_)
      refine rt1 rfl rfl (.refl _) hsub ?_
      have : nodeOk n = false := by rw [hok, decide_eq_false g5]; rfl
      rw [← this]; exact hK
  · have k3 : ¬ n.kind = 3 := by simpa using k3
    rw [if_neg k3] at hok
    repeat (first | refine w1 rfl rfl ?_ | refine w2 rfl ?_ | refine w3 rfl rfl ?_ | refine w4 ?_ | refine w5 ?_ | refine w6 ?_ | refine w7 ?_ | refine w8 rfl ?_ | refine w9 rfl ?_ | refine wa ?_ | refine wd ?_ | refine we ?_ | refine wb ?_ | refine wc ?_ | refine wf ?_ | refine wg ?_ | refine wh ?_ | refine wi rfl ?_ | refine wj ?_ | refine wk ?_ | refine wl ?_ | refine wm ?_ | refine wn ?_ | refine s_load tk rfl rfl (by assumption) rfl rfl ?_ | refine s_ept tk rfl rfl rfl rfl ?_)
    refine rt1 rfl rfl (.refl _) hsub ?_
    rw [← hok]; exact hK
end Abs
end Go.Proofs.Ytnjdkhfdjkjocaa
