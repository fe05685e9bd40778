import Derived.Test.YtbldnaflffmddaaP0
set_option linter.unusedVariables false
namespace Go.Proofs.Ytbldnaflffmddaa
namespace Abs
set_option maxRecDepth 10000
attribute [local irreducible] AOps AW AP ACalls thenQ inBlk noGoto

/-! ### package paths: names and targets -/
def nameOk (s : ByteArray) : Bool := !decide (s = ⟨#[]⟩) && decide ((s.size : Int) ≤ 12) && !decide (s = ⟨#[46]⟩) && !decide (s = ⟨#[46, 46]⟩) && !(hasB s 47 || hasB s 0)
def fitsOk (s : ByteArray) : Bool := !decide (s = ⟨#[]⟩) && decide ((s.size : Int) ≤ 64) && !hasB s 0
def idOk (n : Int) : Bool := decide (0 ≤ n) && decide (n ≤ 65535)

theorem id_c {n : Int} {H : AHeap} {K : AVal → AHeap → Prop} (hK : K (.b (idOk n)) H) : ACalls Try.prog 65 [.i n] H K := by
  refine acalls_body Try.func65 rfl rfl rfl ?_
  repeat (first|(apply w1;apply rfl;apply rfl)|apply w4|apply w5|apply w6|apply w7)
  refine s_gsplit rfl rfl (fun g1 => ?_) (fun g1 => ?_) <;> repeat (first|(apply w1;apply rfl;apply rfl)|(apply w2;apply rfl)|(apply w3;apply rfl;apply rfl)|apply w4|apply w5|apply wd)
  · exact rt1 rfl rfl (.refl _) (AHeap.sub_refl _) (by simpa [idOk, g1] using hK)
  · exact rt1 rfl rfl (.refl _) (AHeap.sub_refl _) (by simpa [idOk, g1] using hK)
theorem fits_c {s : ByteArray} {H : AHeap} {K : AVal → AHeap → Prop} (hK : K (.b (fitsOk s)) H) : ACalls Try.prog 67 [.s s] H K := by
  refine acalls_body Try.func67 rfl rfl rfl ?_
  repeat (first|(apply w1;apply rfl;apply rfl)|apply w4|apply w5|apply w6|apply w7)
  refine s_gsplit rfl rfl (fun g1 => ?_) (fun g1 => ?_) <;> repeat (first|(apply w1;apply rfl;apply rfl)|(apply w2;apply rfl)|(apply w3;apply rfl;apply rfl)|apply w4|apply w5|apply wd)
  · refine s_gsplit rfl rfl (fun g2 => ?_) (fun g2 => ?_) <;> repeat (first|(apply w1;apply rfl;apply rfl)|(apply w2;apply rfl)|(apply w3;apply rfl;apply rfl)|apply w4|apply w5|apply wd)
    · refine s_call rfl rfl fk73 ?_
      refine indexByte_c (c := 0) rfl (fun r hr => ?_)
      repeat (first|(apply w1;apply rfl;apply rfl)|(apply w2;apply rfl)|apply w4|apply w5|apply wd)
      exact rt1 rfl rfl (.refl _) (AHeap.sub_refl _) (by rw [hr]; simpa [fitsOk, g1, g2] using hK)
    · exact rt1 rfl rfl (.refl _) (AHeap.sub_refl _) (by simpa [fitsOk, g1, g2] using hK)
  · exact rt1 rfl rfl (.refl _) (AHeap.sub_refl _) (by simpa [fitsOk, g1] using hK)
theorem name_c {s : ByteArray} {H : AHeap} {K : AVal → AHeap → Prop} (hK : K (.b (nameOk s)) H) : ACalls Try.prog 72 [.s s] H K := by
  refine acalls_body Try.func72 rfl rfl rfl ?_
  repeat (first|(apply w1;apply rfl;apply rfl)|apply w4|apply w5|apply w6|apply w7)
  refine s_gsplit rfl rfl (fun g1 => ?_) (fun g1 => ?_) <;> repeat (first|(apply w1;apply rfl;apply rfl)|(apply w2;apply rfl)|(apply w3;apply rfl;apply rfl)|apply w4|apply w5|apply wd)
  · refine s_gsplit rfl rfl (fun g2 => ?_) (fun g2 => ?_) <;> repeat (first|(apply w1;apply rfl;apply rfl)|(apply w2;apply rfl)|(apply w3;apply rfl;apply rfl)|apply w4|apply w5|apply wd)
    · refine s_gsplit rfl rfl (fun g3 => ?_) (fun g3 => ?_) <;> repeat (first|(apply w1;apply rfl;apply rfl)|(apply w2;apply rfl)|(apply w3;apply rfl;apply rfl)|apply w4|apply w5|apply wd)
      · refine s_gsplit rfl rfl (fun g4 => ?_) (fun g4 => ?_) <;> repeat (first|(apply w1;apply rfl;apply rfl)|(apply w2;apply rfl)|(apply w3;apply rfl;apply rfl)|apply w4|apply w5|apply wd)
        · refine s_call rfl rfl fk85 ?_
          have hs : s.size < 4294967281 := by simp at g2; omega
          refine containsAny_c hs ?_
          repeat (first|(apply w1;apply rfl;apply rfl)|(apply w2;apply rfl)|apply w4|apply w5|apply wd)
          exact rt1 rfl rfl (.refl _) (AHeap.sub_refl _) (by simpa [nameOk, g1, g2, g3, g4] using hK)
        · exact rt1 rfl rfl (.refl _) (AHeap.sub_refl _) (by simpa [nameOk, g1, g2, g3, g4] using hK)
      · exact rt1 rfl rfl (.refl _) (AHeap.sub_refl _) (by simpa [nameOk, g1, g2, g3] using hK)
    · exact rt1 rfl rfl (.refl _) (AHeap.sub_refl _) (by simpa [nameOk, g1, g2] using hK)
  · exact rt1 rfl rfl (.refl _) (AHeap.sub_refl _) (by simpa [nameOk, g1] using hK)

/-! ### entries -/
def risingFrom : Option ByteArray → List Ent → Bool
  | _, [] => true
  | prev, e :: l => nameOk e.name && decide (1 ≤ e.node) && (match prev with | none => true | some p => Op.bytesLess p.toList e.name.toList) && risingFrom (some e.name) l
def rising (l : List Ent) : Bool := risingFrom none l && decide ((l.length : Int) ≤ 8)
def prevAt (l : List Ent) (k : Nat) : Option ByteArray := if k = 0 then none else (l[k - 1]?).map (·.name)
theorem rising_c {l : List Ent} {o : Own} {H : AHeap} {K : AVal → AHeap → Prop} (hl : l.length ≤ 1073741824) (hK : K (.b (rising l)) H) : ACalls Try.prog 66 [.sl (l.map encEnt) o] H K := by
  refine acalls_body Try.func66 rfl rfl rfl ?_
  repeat (first|(apply w1;apply rfl;apply rfl)|apply w4|apply w5|apply w6|apply w7|apply wb)
  refine aw_loop (fun k : Nat => k ≤ l.length ∧ risingFrom none l = risingFrom (prevAt l k) (l.drop k)) (fun k => [(0, .sl (l.map encEnt) o), (5, .sl (l.map encEnt) o), (6, .i (l.map encEnt).length), (7, .i k)]) (fun _ => H) (fun k => l.length - k) 0 ⟨Nat.zero_le _, rfl⟩ (Fr.sub_cons rfl (Fr.sub_cons rfl (Fr.sub_cons rfl (Fr.sub_cons rfl (Fr.sub_nil _))))) (AHeap.sub_refl _) ?_
  intro k ⟨hk, hr⟩
  repeat (first|(apply w1;apply rfl;apply rfl)|apply w4|apply w5|apply w6|apply w7)
  refine aw_cond rfl (fun c => ?_) (fun c => ?_)
  · have c' : k < l.length := by simpa using c
    repeat (first|(apply w1;apply rfl;apply rfl)|apply w5|apply w6|apply w7|apply wa|apply wb)
    refine s_index tk rfl rfl rfl rfl (by omega) (show (l.map encEnt)[(k : Int).toNat]? = some (encEnt l[k]) by simp [c']) rfl ?_
    skip
    refine s_epta (ds := encEnt l[k]) tk rfl rfl rfl (Nat.le_refl 2) rfl ?_
    skip
    refine s_alloc tk rfl rfl rfl (fun b4 h4 => ?_)
    repeat ((apply w1;apply rfl;apply rfl))
    refine s_storew tk rfl rfl (put_same _ _ _) rfl rfl rfl rfl ?_
    rw [put_put]
    repeat (first|apply w4|apply w5|apply w6)
    refine aw_prot [b4] (allc (.inl (put_same _ _ _)) (allc0 _)) ?_
    have hro := prot_get (bs := [b4]) (List.mem_singleton.2 rfl) (.inl (put_same H b4 (.cells (encEnt l[k]))))
    have hdrop : l.drop k = l[k] :: l.drop (k + 1) := List.drop_eq_getElem_cons c'
    have hnext : prevAt l (k + 1) = some l[k].name := by simp [prevAt, c']
    have hstep : risingFrom none l = (nameOk l[k].name && decide (1 ≤ l[k].node) && (match prevAt l k with | none => true | some p => Op.bytesLess p.toList l[k].name.toList) && risingFrom (some l[k].name) (l.drop (k + 1))) := by rw [hr, hdrop]; rfl
    clear hr hdrop
    refine aw_plan mixed (.take 0 (.take 1 (.one 2 (.take 3 (.take 4 (.take 5 (.take 6 (.take 7 (.take 8 (.take 9 (.take 10 (.take 11 (.take 12 (.take 13 (.take 14 (.take 15 (.take 16 (.take 17 (.take 18 (.take 19 (.take 20 (.take 21 (.take 22 (.take 23 .done)))))))))))))))))))))))) (by kernel_rfl) ?_
    repeat ((apply d1;apply rfl;apply rfl;apply rfl;apply rfl))
    refine d_ro rfl rfl rfl rfl hro rfl rfl ?_
    skip
    refine d4 rfl ?_
    refine s_call rfl rfl fk72 ?_
    refine name_c ?_
    refine w4 ?_
    repeat ((apply d1;apply rfl;apply rfl;apply rfl;apply rfl))
    refine d_split rfl rfl rfl (fun g1 => ?_) (fun g1 => ?_)
    · repeat (first|(apply d1;apply rfl;apply rfl;apply rfl;apply rfl)|(apply d2;apply rfl;apply rfl;apply rfl)|apply d3)
      refine prot_done ?_
      repeat (first|(apply w1;apply rfl;apply rfl)|apply w4|apply w5|apply w6|apply w7|(apply w8;apply rfl)|apply wd|apply we|apply wj)
      refine rt1 rfl rfl (.refl _) (sub_new h4 (AHeap.sub_refl _)) ?_
      have : rising l = false := by
        have g1' : nameOk l[k].name = false := by simpa using g1
        rw [rising, hstep, g1']; simp
      rw [← this]; exact hK
    repeat ((apply d1;apply rfl;apply rfl;apply rfl;apply rfl))
    refine d_ro rfl rfl rfl rfl hro rfl rfl ?_
    repeat ((apply d1;apply rfl;apply rfl;apply rfl;apply rfl))
    refine d_split rfl rfl rfl (fun g2 => ?_) (fun g2 => ?_)
    · repeat (first|(apply d1;apply rfl;apply rfl;apply rfl;apply rfl)|(apply d2;apply rfl;apply rfl;apply rfl)|apply d3)
      refine prot_done ?_
      repeat (first|(apply w1;apply rfl;apply rfl)|apply w4|apply w5|apply w6|apply w7|(apply w8;apply rfl)|apply wd|apply we|apply wj)
      refine rt1 rfl rfl (.refl _) (sub_new h4 (AHeap.sub_refl _)) ?_
      have : rising l = false := by
        have : ¬ 1 ≤ l[k].node := by simp at g2; omega
        rw [rising, hstep, decide_eq_false this]; simp
      rw [← this]; exact hK
    repeat ((apply d1;apply rfl;apply rfl;apply rfl;apply rfl))
    have g2' : decide (1 ≤ l[k].node) = true := by simp at g2 ⊢; omega
    have g1' : nameOk l[k].name = true := by simpa using g1
    refine d_split rfl rfl rfl (fun g3 => ?_) (fun g3 => ?_)
    · have hk0 : 0 < k := by simpa using g3
      have hprev : prevAt l k = some l[k - 1].name := by simp only [prevAt, show ¬ k = 0 by omega, if_false]; rw [List.getElem?_eq_getElem (by omega)]; rfl
      repeat ((apply d1;apply rfl;apply rfl;apply rfl;apply rfl))
      refine d_sub rfl rfl rfl rfl rfl (by omega) ?_
      skip
      refine d_index rfl rfl rfl rfl rfl rfl (by omega) (show (l.map encEnt)[((k : Int) - 1).toNat]? = some (encEnt l[k - 1]) by rw [show ((k : Int) - 1).toNat = k - 1 by omega]; simp [show k - 1 < l.length by omega]) rfl ?_
      repeat ((apply d1;apply rfl;apply rfl;apply rfl;apply rfl))
      refine d_ept rfl rfl rfl rfl rfl rfl ?_
      repeat ((apply d1;apply rfl;apply rfl;apply rfl;apply rfl))
      refine d_ro rfl rfl rfl rfl hro rfl rfl ?_
      repeat (first|(apply d1;apply rfl;apply rfl;apply rfl;apply rfl)|apply d3)
      refine prot_done ?_
      repeat (apply w5)
      refine aw_cond rfl (fun g4 => ?_) (fun g4 => ?_)
      · repeat (first|(apply w1;apply rfl;apply rfl)|apply w4|apply w5|apply w6|apply w7|apply wd|apply we|apply wj)
        refine rt1 rfl rfl (.refl _) (sub_new h4 (AHeap.sub_refl _)) ?_
        have : rising l = false := by
          have g5 : Op.bytesLess l[k - 1].name.toList l[k].name.toList = false := by simpa using g4
          rw [rising, hstep, hprev]; simp [g5]
        rw [← this]; exact hK
      · repeat (first|apply w5|apply w7|apply wa|apply wg)
        refine s_add rfl rfl rfl (by omega) ?_
        repeat (first|(apply w1;apply rfl;apply rfl)|apply w4|apply w5)
        refine ⟨k + 1, ⟨by omega, ?_⟩, by omega, Fr.sub_cons rfl (Fr.sub_cons rfl (Fr.sub_cons rfl (Fr.sub_cons rfl (Fr.sub_nil _)))), sub_new h4 (AHeap.sub_refl _)⟩
        have g5 : Op.bytesLess l[k - 1].name.toList l[k].name.toList = true := by simpa using g4
        rw [hstep, hprev, hnext, g1', g2']; simp only [g5, Bool.and_true, Bool.true_and]
    · have hk0 : k = 0 := by simpa using g3
      repeat (first|(apply d1;apply rfl;apply rfl;apply rfl;apply rfl)|(apply d2;apply rfl;apply rfl;apply rfl)|apply d3)
      refine prot_done ?_
      repeat (first|apply w5|apply w7|(apply w9;apply rfl)|apply wa|apply wg)
      refine s_add rfl rfl rfl (by omega) ?_
      repeat (first|(apply w1;apply rfl;apply rfl)|apply w4|apply w5)
      refine ⟨k + 1, ⟨by omega, ?_⟩, by omega, Fr.sub_cons rfl (Fr.sub_cons rfl (Fr.sub_cons rfl (Fr.sub_cons rfl (Fr.sub_nil _)))), sub_new h4 (AHeap.sub_refl _)⟩
      rw [hstep, hnext, g1', g2', prevAt, if_pos hk0]; simp only [Bool.and_true, Bool.true_and]
  · have hkl : k = l.length := by have : ¬ k < l.length := by simpa using c
                                  omega
    subst hkl
    repeat (first|(apply w1;apply rfl;apply rfl)|apply w4|apply w5|apply w6|apply w7|apply wd|apply wc|apply wf|apply wh)
    refine rt1 rfl rfl (.refl _) (AHeap.sub_refl _) ?_
    have : rising l = decide (((l.map encEnt).length : Int) ≤ 8) := by simp [rising, hr, risingFrom]
    rw [← this]; exact hK
end Abs
end Go.Proofs.Ytbldnaflffmddaa

set_option linter.unusedVariables false
namespace Go.Proofs.Ytbldnaflffmddaa
namespace Abs
set_option maxRecDepth 10000
attribute [local irreducible] AOps AW AP ACalls thenQ inBlk noGoto

/-! ### package node: Right, Same -/
def nodeOk (n : Node) : Bool :=
  decide (0 ≤ n.mode) && decide (n.mode ≤ 4095) && idOk n.uid && idOk n.gid &&
    (if n.kind = 1 then decide (n.ents.length = 0) && decide (n.target = ⟨#[]⟩) && decide (n.data.size ≤ 48)
    else if n.kind = 2 then decide (n.data.size = 0) && decide (n.target = ⟨#[]⟩) && rising n.ents
    else if n.kind = 3 then decide (n.data.size + n.ents.length = 0) && decide (n.mode = 511) && fitsOk n.target
    else false)
theorem encBytes_len (s : ByteArray) : (encBytes s).length = s.size := by simp [encBytes]
theorem ents_len (l : List Ent) : (l.map encEnt).length = l.length := by simp

theorem right_c {n : Node} {H : AHeap} {K : AVal → AHeap → Prop} (hs : n.small) (hK : K (.b (nodeOk n)) H) : ACalls Try.prog 53 [.agg (encNode n)] H K := by
  refine acalls_body Try.func53 rfl rfl rfl ?_
  repeat (first|apply w6|apply w7)
  refine s_box rfl rfl rfl (fun b1 h1 => ?_)
  have hb : Rd (H.put b1 (.cells (encNode n))) b1 (encNode n) := .inl (put_same _ _ _)
  have hsub : H.sub (H.put b1 (.cells (encNode n))) := sub_new h1 (AHeap.sub_refl _)
  repeat (first|(apply w1;apply rfl;apply rfl)|apply w4|apply w5|apply w6|apply w7|(apply s_load tk;apply rfl;apply rfl;(assumption);apply rfl;apply rfl))
  refine s_gsplit rfl rfl (fun g1 => ?_) (fun g1 => ?_)
  · repeat (first|(apply w1;apply rfl;apply rfl)|(apply w3;apply rfl;apply rfl)|apply w4|apply w5|apply w6|apply w7|(apply w8;apply rfl)|apply wd|apply we)
    refine rt1 rfl rfl (.refl _) hsub ?_
    have : nodeOk n = false := by have : ¬ 0 ≤ n.mode := by simp at g1; omega
                                  simp [nodeOk, this]
    rw [← this]; exact hK
  repeat (first|(apply w1;apply rfl;apply rfl)|(apply w2;apply rfl)|(apply s_load tk;apply rfl;apply rfl;(assumption);apply rfl;apply rfl))
  have e1 : decide (0 ≤ n.mode) = true := by simp at g1 ⊢; omega
  refine s_gsplit rfl rfl (fun g2 => ?_) (fun g2 => ?_)
  · repeat (first|(apply w1;apply rfl;apply rfl)|(apply w3;apply rfl;apply rfl)|apply w4|apply w5|apply w6|apply w7|(apply w8;apply rfl)|apply wd|apply we)
    refine rt1 rfl rfl (.refl _) hsub ?_
    have : nodeOk n = false := by have : ¬ n.mode ≤ 4095 := by simp at g2; omega
                                  simp [nodeOk, this]
    rw [← this]; exact hK
  repeat (first|(apply w1;apply rfl;apply rfl)|(apply w2;apply rfl)|(apply s_load tk;apply rfl;apply rfl;(assumption);apply rfl;apply rfl))
  have e2 : decide (n.mode ≤ 4095) = true := by simp at g2 ⊢; omega
  refine s_call rfl rfl fk65 ?_
  refine id_c ?_
  repeat (first|(apply w1;apply rfl;apply rfl)|(apply w2;apply rfl))
  refine s_gsplit rfl rfl (fun g3 => ?_) (fun g3 => ?_)
  · repeat (first|(apply w1;apply rfl;apply rfl)|(apply w3;apply rfl;apply rfl)|apply w4|apply w5|apply w6|apply w7|(apply w8;apply rfl)|apply wd|apply we)
    refine rt1 rfl rfl (.refl _) hsub ?_
    have : nodeOk n = false := by simp at g3; simp [nodeOk, g3]
    rw [← this]; exact hK
  repeat (first|(apply w1;apply rfl;apply rfl)|(apply w2;apply rfl)|(apply s_load tk;apply rfl;apply rfl;(assumption);apply rfl;apply rfl))
  have e3 : idOk n.uid = true := by simpa using g3
  refine s_call rfl rfl fk65 ?_
  refine id_c ?_
  repeat (first|(apply w1;apply rfl;apply rfl)|(apply w2;apply rfl)|apply w4|apply w5)
  refine aw_cond rfl (fun g4 => ?_) (fun g4 => ?_)
  · repeat (first|(apply w1;apply rfl;apply rfl)|apply w4|apply w5|apply w6|apply w7|apply wd|apply we)
    refine rt1 rfl rfl (.refl _) hsub ?_
    have : nodeOk n = false := by simp at g4; simp [nodeOk, g4]
    rw [← this]; exact hK
  have e4 : idOk n.gid = true := by simpa using g4
  have hok : nodeOk n = (if n.kind = 1 then decide (n.ents.length = 0) && decide (n.target = ⟨#[]⟩) && decide (n.data.size ≤ 48)
    else if n.kind = 2 then decide (n.data.size = 0) && decide (n.target = ⟨#[]⟩) && rising n.ents
    else if n.kind = 3 then decide (n.data.size + n.ents.length = 0) && decide (n.mode = 511) && fitsOk n.target
    else false) := by simp only [nodeOk, e1, e2, e3, e4, Bool.true_and]
  have l1 := encBytes_len n.data
  have l2 := ents_len n.ents
  repeat (first|(apply w1;apply rfl;apply rfl)|apply w4|apply w5|apply w6|apply w7|apply wa|apply wb|(apply s_load tk;apply rfl;apply rfl;(assumption);apply rfl;apply rfl))
  refine aw_cond rfl (fun k1 => ?_) (fun k1 => ?_)
  · have k1 : n.kind = 1 := by simpa using k1
    rw [if_pos k1] at hok
    repeat (first|(apply w1;apply rfl;apply rfl)|apply w6|apply w7|(apply s_load tk;apply rfl;apply rfl;(assumption);apply rfl;apply rfl))
    refine s_gsplit rfl rfl (fun g5 => ?_) (fun g5 => ?_)
    · repeat (first|(apply w1;apply rfl;apply rfl)|(apply w2;apply rfl)|(apply s_load tk;apply rfl;apply rfl;(assumption);apply rfl;apply rfl))
      refine s_gsplit rfl rfl (fun g6 => ?_) (fun g6 => ?_)
      · repeat (first|(apply w1;apply rfl;apply rfl)|(apply w2;apply rfl)|apply w4|apply w5|apply wd|apply we|apply wj|(apply s_load tk;apply rfl;apply rfl;(assumption);apply rfl;apply rfl))
        refine rt1 rfl rfl (.refl _) hsub ?_
        have : nodeOk n = decide (((encBytes n.data).length : Int) ≤ 48) := by
          have : n.ents = [] := by simpa using g5
          have g6 : n.target = ⟨#[]⟩ := by simpa using g6
          rw [hok, l1, this, g6]; simp; omega
        rw [← this]; exact hK
      · repeat (first|(apply w1;apply rfl;apply rfl)|(apply w3;apply rfl;apply rfl)|apply w4|apply w5|apply wd|apply we|apply wj)
        refine rt1 rfl rfl (.refl _) hsub ?_
        have : nodeOk n = false := by
          have g6 : ¬ n.target = ⟨#[]⟩ := by simpa using g6
          rw [hok]; simp [g6]
        rw [← this]; exact hK
    · repeat (first|(apply w1;apply rfl;apply rfl)|(apply w3;apply rfl;apply rfl)|apply w4|apply w5|apply wd|apply we|apply wj)
      refine rt1 rfl rfl (.refl _) hsub ?_
      have : nodeOk n = false := by
        have g5 : ¬ n.ents = [] := by simpa using g5
        rw [hok]; simp [g5]
      rw [← this]; exact hK
  have k1 : ¬ n.kind = 1 := by simpa using k1
  rw [if_neg k1] at hok
  repeat (first|(apply w1;apply rfl;apply rfl)|apply w4|apply w5|apply w6|apply w7)
  refine aw_cond rfl (fun k2 => ?_) (fun k2 => ?_)
  · have k2 : n.kind = 2 := by simpa using k2
    rw [if_pos k2] at hok
    repeat (first|(apply w1;apply rfl;apply rfl)|apply w6|apply w7|(apply s_load tk;apply rfl;apply rfl;(assumption);apply rfl;apply rfl))
    refine s_gsplit rfl rfl (fun g5 => ?_) (fun g5 => ?_)
    · have g5 : n.data.size = 0 := by rw [l1] at g5; simpa using g5
      repeat (first|(apply w1;apply rfl;apply rfl)|(apply w2;apply rfl)|(apply s_load tk;apply rfl;apply rfl;(assumption);apply rfl;apply rfl))
      refine s_gsplit rfl rfl (fun g6 => ?_) (fun g6 => ?_)
      · have g6 : n.target = ⟨#[]⟩ := by simpa using g6
        repeat (first|(apply w1;apply rfl;apply rfl)|(apply w2;apply rfl)|(apply s_load tk;apply rfl;apply rfl;(assumption);apply rfl;apply rfl))
        refine s_call rfl rfl fk66 ?_
        refine rising_c hs.2 ?_
        repeat (first|(apply w1;apply rfl;apply rfl)|apply w4|apply w5|apply wd|apply we|apply wj)
        refine rt1 rfl rfl (.refl _) hsub ?_
        have : nodeOk n = rising n.ents := by rw [hok, g5, g6]; simp
        rw [← this]; exact hK
      · have g6 : ¬ n.target = ⟨#[]⟩ := by simpa using g6
        repeat (first|(apply w1;apply rfl;apply rfl)|(apply w3;apply rfl;apply rfl)|apply w4|apply w5|apply wd|apply we|apply wj)
        refine rt1 rfl rfl (.refl _) hsub ?_
        have : nodeOk n = false := by rw [hok]; simp [g6]
        rw [← this]; exact hK
    · have g5 : ¬ n.data.size = 0 := by rw [l1] at g5; simpa using g5
      repeat (first|(apply w1;apply rfl;apply rfl)|(apply w3;apply rfl;apply rfl)|apply w4|apply w5|apply wd|apply we|apply wj)
      refine rt1 rfl rfl (.refl _) hsub ?_
      have : nodeOk n = false := by rw [hok, decide_eq_false g5]; rfl
      rw [← this]; exact hK
  have k2 : ¬ n.kind = 2 := by simpa using k2
  rw [if_neg k2] at hok
  repeat (first|(apply w1;apply rfl;apply rfl)|apply w4|apply w5|apply w6|apply w7)
  refine aw_cond rfl (fun k3 => ?_) (fun k3 => ?_)
  · have k3 : n.kind = 3 := by simpa using k3
    rw [if_pos k3] at hok
    repeat (first|(apply w1;apply rfl;apply rfl)|apply w6|apply w7|(apply s_load tk;apply rfl;apply rfl;(assumption);apply rfl;apply rfl))
    refine s_add rfl rfl rfl (by rw [l1, l2]; have := hs.1; have := hs.2; omega) ?_
    repeat ((apply w1;apply rfl;apply rfl))
    refine s_gsplit rfl rfl (fun g5 => ?_) (fun g5 => ?_)
    · have g5 : n.data.size + n.ents.length = 0 := by rw [l1, l2] at g5; have := of_decide_eq_true g5; omega
      repeat (first|(apply w1;apply rfl;apply rfl)|(apply w2;apply rfl)|(apply s_load tk;apply rfl;apply rfl;(assumption);apply rfl;apply rfl))
      refine s_gsplit rfl rfl (fun g6 => ?_) (fun g6 => ?_)
      · have g6 : n.mode = 511 := by simpa using g6
        repeat (first|(apply w1;apply rfl;apply rfl)|(apply w2;apply rfl)|(apply s_load tk;apply rfl;apply rfl;(assumption);apply rfl;apply rfl))
        refine s_call rfl rfl fk67 ?_
        refine fits_c ?_
        repeat (first|(apply w1;apply rfl;apply rfl)|apply w4|apply w5|apply wd|apply we|apply wj)
        refine rt1 rfl rfl (.refl _) hsub ?_
        have : nodeOk n = fitsOk n.target := by rw [hok, g5, g6]; simp
        rw [← this]; exact hK
      · have g6 : ¬ n.mode = 511 := by simpa using g6
        repeat (first|(apply w1;apply rfl;apply rfl)|(apply w3;apply rfl;apply rfl)|apply w4|apply w5|apply wd|apply we|apply wj)
        refine rt1 rfl rfl (.refl _) hsub ?_
        have : nodeOk n = false := by rw [hok]; simp [g6]
        rw [← this]; exact hK
    · have g5 : ¬ n.data.size + n.ents.length = 0 := by rw [l1, l2] at g5; have := of_decide_eq_false g5; omega
      repeat (first|(apply w1;apply rfl;apply rfl)|(apply w3;apply rfl;apply rfl)|apply w4|apply w5|apply wd|apply we|apply wj)
      refine rt1 rfl rfl (.refl _) hsub ?_
      have : nodeOk n = false := by rw [hok, decide_eq_false g5]; rfl
      rw [← this]; exact hK
  · have k3 : ¬ n.kind = 3 := by simpa using k3
    rw [if_neg k3] at hok
    repeat (first|(apply w1;apply rfl;apply rfl)|apply w4|apply w5|apply w6|apply w7|apply wa|apply wd|apply wg)
    refine rt1 rfl rfl (.refl _) hsub ?_
    rw [← hok]; exact hK
end Abs
end Go.Proofs.Ytbldnaflffmddaa
