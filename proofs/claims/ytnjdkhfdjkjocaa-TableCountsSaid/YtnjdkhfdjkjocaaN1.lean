import Derived.Test.YtnjdkhfdjkjocaaP2
set_option linter.unusedVariables false
namespace Go.Proofs.Ytnjdkhfdjkjocaa
namespace Abs
set_option maxRecDepth 10000

/-! ### package paths: names and targets -/
def nameOk (s : ByteArray) : Bool := !decide (s = ⟨#[]⟩) && decide ((s.size : Int) ≤ 12) && !decide (s = ⟨#[46]⟩) && !decide (s = ⟨#[46, 46]⟩) && !(hasB s 47 || hasB s 0)
def fitsOk (s : ByteArray) : Bool := !decide (s = ⟨#[]⟩) && decide ((s.size : Int) ≤ 64) && !hasB s 0
def idOk (n : Int) : Bool := decide (0 ≤ n) && decide (n ≤ 65535)

theorem id_c {n : Int} {H : AHeap} {K : AVal → AHeap → Prop} (hK : K (.b (idOk n)) H) : ACalls Try.prog 85 [.i n] H K := by
  refine acalls_body Try.func85 rfl rfl rfl ?_
  repeat (first | refine w1 rfl rfl ?_ | refine w2 rfl ?_ | refine w3 rfl rfl ?_ | refine w4 ?_ | refine w5 ?_ | refine w6 ?_ | refine w7 ?_ | refine w8 rfl ?_ | refine w9 rfl ?_ | refine wa ?_ | refine wd ?_ | refine we ?_ | refine wb ?_ | refine wc ?_ | refine wf ?_ | refine wg ?_ | refine wh ?_ | refine wi rfl ?_ | refine wj ?_ | refine wk ?_ | refine wl ?_ | refine wm ?_ | refine wn ?_)
  refine s_gsplit rfl rfl (fun g1 => ?_) (fun g1 => ?_) <;> repeat (first | refine w1 rfl rfl ?_ | refine w2 rfl ?_ | refine w3 rfl rfl ?_ | refine w4 ?_ | refine w5 ?_ | refine w6 ?_ | refine w7 ?_ | refine w8 rfl ?_ | refine w9 rfl ?_ | refine wa ?_ | refine wd ?_ | refine we ?_ | refine wb ?_ | refine wc ?_ | refine wf ?_ | refine wg ?_ | refine wh ?_ | refine wi rfl ?_ | refine wj ?_ | refine wk ?_ | refine wl ?_ | refine wm ?_ | refine wn ?_)
  · exact rt1 rfl rfl (.refl _) (AHeap.sub_refl _) (by simpa [idOk, g1] using hK)
  · exact rt1 rfl rfl (.refl _) (AHeap.sub_refl _) (by simpa [idOk, g1] using hK)
theorem fits_c {s : ByteArray} {H : AHeap} {K : AVal → AHeap → Prop} (hK : K (.b (fitsOk s)) H) : ACalls Try.prog 87 [.s s] H K := by
  refine acalls_body Try.func87 rfl rfl rfl ?_
  repeat (first | refine w1 rfl rfl ?_ | refine w2 rfl ?_ | refine w3 rfl rfl ?_ | refine w4 ?_ | refine w5 ?_ | refine w6 ?_ | refine w7 ?_ | refine w8 rfl ?_ | refine w9 rfl ?_ | refine wa ?_ | refine wd ?_ | refine we ?_ | refine wb ?_ | refine wc ?_ | refine wf ?_ | refine wg ?_ | refine wh ?_ | refine wi rfl ?_ | refine wj ?_ | refine wk ?_ | refine wl ?_ | refine wm ?_ | refine wn ?_)
  refine s_gsplit rfl rfl (fun g1 => ?_) (fun g1 => ?_) <;> repeat (first | refine w1 rfl rfl ?_ | refine w2 rfl ?_ | refine w3 rfl rfl ?_ | refine w4 ?_ | refine w5 ?_ | refine w6 ?_ | refine w7 ?_ | refine w8 rfl ?_ | refine w9 rfl ?_ | refine wa ?_ | refine wd ?_ | refine we ?_ | refine wb ?_ | refine wc ?_ | refine wf ?_ | refine wg ?_ | refine wh ?_ | refine wi rfl ?_ | refine wj ?_ | refine wk ?_ | refine wl ?_ | refine wm ?_ | refine wn ?_)
  · refine s_gsplit rfl rfl (fun g2 => ?_) (fun g2 => ?_) <;> repeat (first | refine w1 rfl rfl ?_ | refine w2 rfl ?_ | refine w3 rfl rfl ?_ | refine w4 ?_ | refine w5 ?_ | refine w6 ?_ | refine w7 ?_ | refine w8 rfl ?_ | refine w9 rfl ?_ | refine wa ?_ | refine wd ?_ | refine we ?_ | refine wb ?_ | refine wc ?_ | refine wf ?_ | refine wg ?_ | refine wh ?_ | refine wi rfl ?_ | refine wj ?_ | refine wk ?_ | refine wl ?_ | refine wm ?_ | refine wn ?_)
    · refine s_call rfl rfl fk103 ?_
      refine indexByte_c (c := 0) rfl (fun r hr => ?_)
      repeat (first | refine w1 rfl rfl ?_ | refine w2 rfl ?_ | refine w3 rfl rfl ?_ | refine w4 ?_ | refine w5 ?_ | refine w6 ?_ | refine w7 ?_ | refine w8 rfl ?_ | refine w9 rfl ?_ | refine wa ?_ | refine wd ?_ | refine we ?_ | refine wb ?_ | refine wc ?_ | refine wf ?_ | refine wg ?_ | refine wh ?_ | refine wi rfl ?_ | refine wj ?_ | refine wk ?_ | refine wl ?_ | refine wm ?_ | refine wn ?_)
      exact rt1 rfl rfl (.refl _) (AHeap.sub_refl _) (by rw [hr]; simpa [fitsOk, g1, g2] using hK)
    · exact rt1 rfl rfl (.refl _) (AHeap.sub_refl _) (by simpa [fitsOk, g1, g2] using hK)
  · exact rt1 rfl rfl (.refl _) (AHeap.sub_refl _) (by simpa [fitsOk, g1] using hK)
theorem name_c {s : ByteArray} {H : AHeap} {K : AVal → AHeap → Prop} (hK : K (.b (nameOk s)) H) : ACalls Try.prog 102 [.s s] H K := by
  refine acalls_body Try.func102 rfl rfl rfl ?_
  repeat (first | refine w1 rfl rfl ?_ | refine w2 rfl ?_ | refine w3 rfl rfl ?_ | refine w4 ?_ | refine w5 ?_ | refine w6 ?_ | refine w7 ?_ | refine w8 rfl ?_ | refine w9 rfl ?_ | refine wa ?_ | refine wd ?_ | refine we ?_ | refine wb ?_ | refine wc ?_ | refine wf ?_ | refine wg ?_ | refine wh ?_ | refine wi rfl ?_ | refine wj ?_ | refine wk ?_ | refine wl ?_ | refine wm ?_ | refine wn ?_)
  refine s_gsplit rfl rfl (fun g1 => ?_) (fun g1 => ?_) <;> repeat (first | refine w1 rfl rfl ?_ | refine w2 rfl ?_ | refine w3 rfl rfl ?_ | refine w4 ?_ | refine w5 ?_ | refine w6 ?_ | refine w7 ?_ | refine w8 rfl ?_ | refine w9 rfl ?_ | refine wa ?_ | refine wd ?_ | refine we ?_ | refine wb ?_ | refine wc ?_ | refine wf ?_ | refine wg ?_ | refine wh ?_ | refine wi rfl ?_ | refine wj ?_ | refine wk ?_ | refine wl ?_ | refine wm ?_ | refine wn ?_)
  · refine s_gsplit rfl rfl (fun g2 => ?_) (fun g2 => ?_) <;> repeat (first | refine w1 rfl rfl ?_ | refine w2 rfl ?_ | refine w3 rfl rfl ?_ | refine w4 ?_ | refine w5 ?_ | refine w6 ?_ | refine w7 ?_ | refine w8 rfl ?_ | refine w9 rfl ?_ | refine wa ?_ | refine wd ?_ | refine we ?_ | refine wb ?_ | refine wc ?_ | refine wf ?_ | refine wg ?_ | refine wh ?_ | refine wi rfl ?_ | refine wj ?_ | refine wk ?_ | refine wl ?_ | refine wm ?_ | refine wn ?_)
    · refine s_gsplit rfl rfl (fun g3 => ?_) (fun g3 => ?_) <;> repeat (first | refine w1 rfl rfl ?_ | refine w2 rfl ?_ | refine w3 rfl rfl ?_ | refine w4 ?_ | refine w5 ?_ | refine w6 ?_ | refine w7 ?_ | refine w8 rfl ?_ | refine w9 rfl ?_ | refine wa ?_ | refine wd ?_ | refine we ?_ | refine wb ?_ | refine wc ?_ | refine wf ?_ | refine wg ?_ | refine wh ?_ | refine wi rfl ?_ | refine wj ?_ | refine wk ?_ | refine wl ?_ | refine wm ?_ | refine wn ?_)
      · refine s_gsplit rfl rfl (fun g4 => ?_) (fun g4 => ?_) <;> repeat (first | refine w1 rfl rfl ?_ | refine w2 rfl ?_ | refine w3 rfl rfl ?_ | refine w4 ?_ | refine w5 ?_ | refine w6 ?_ | refine w7 ?_ | refine w8 rfl ?_ | refine w9 rfl ?_ | refine wa ?_ | refine wd ?_ | refine we ?_ | refine wb ?_ | refine wc ?_ | refine wf ?_ | refine wg ?_ | refine wh ?_ | refine wi rfl ?_ | refine wj ?_ | refine wk ?_ | refine wl ?_ | refine wm ?_ | refine wn ?_)
        · refine s_call rfl rfl fk110 ?_
          have hs : s.size < 4294967281 := by simp at g2; omega
          refine containsAny_c hs ?_
          repeat (first | refine w1 rfl rfl ?_ | refine w2 rfl ?_ | refine w3 rfl rfl ?_ | refine w4 ?_ | refine w5 ?_ | refine w6 ?_ | refine w7 ?_ | refine w8 rfl ?_ | refine w9 rfl ?_ | refine wa ?_ | refine wd ?_ | refine we ?_ | refine wb ?_ | refine wc ?_ | refine wf ?_ | refine wg ?_ | refine wh ?_ | refine wi rfl ?_ | refine wj ?_ | refine wk ?_ | refine wl ?_ | refine wm ?_ | refine wn ?_)
          exact rt1 rfl rfl (.refl _) (AHeap.sub_refl _) (by simpa [nameOk, g1, g2, g3, g4] using hK)
        · exact rt1 rfl rfl (.refl _) (AHeap.sub_refl _) (by simpa [nameOk, g1, g2, g3, g4] using hK)
      · exact rt1 rfl rfl (.refl _) (AHeap.sub_refl _) (by simpa [nameOk, g1, g2, g3] using hK)
    · exact rt1 rfl rfl (.refl _) (AHeap.sub_refl _) (by simpa [nameOk, g1, g2] using hK)
  · exact rt1 rfl rfl (.refl _) (AHeap.sub_refl _) (by simpa [nameOk, g1] using hK)

/-! ### entries -/
def risingFrom : Option ByteArray → List Ent → Bool
  | _, [] => true
  | prev, e :: l => nameOk e.name && decide (1 ≤ e.node) && (match prev with | none => true | some p => Op.bytesLess p.toList e.name.toList) && risingFrom (some e.name) l
def rising (l : List Ent) : Bool := risingFrom none l && decide ((l.length : Int) ≤ 8)
def prevAt (l : List Ent) (k : Nat) : Option ByteArray := if k = 0 then none else (l[k - 1]?).map (·.name)
theorem rising_c {l : List Ent} {o : Own} {H : AHeap} {K : AVal → AHeap → Prop} (hl : l.length ≤ 1073741824) (hK : K (.b (rising l)) H) : ACalls Try.prog 86 [.sl (l.map encEnt) o] H K := by
  refine acalls_body Try.func86 rfl rfl rfl ?_
  repeat (first | refine w1 rfl rfl ?_ | refine w2 rfl ?_ | refine w3 rfl rfl ?_ | refine w4 ?_ | refine w5 ?_ | refine w6 ?_ | refine w7 ?_ | refine w8 rfl ?_ | refine w9 rfl ?_ | refine wa ?_ | refine wd ?_ | refine we ?_ | refine wb ?_ | refine wc ?_ | refine wf ?_ | refine wg ?_ | refine wh ?_ | refine wi rfl ?_ | refine wj ?_ | refine wk ?_ | refine wl ?_ | refine wm ?_ | refine wn ?_)
  refine aw_loop (fun k : Nat => k ≤ l.length ∧ risingFrom none l = risingFrom (prevAt l k) (l.drop k)) (fun k => [(0, .sl (l.map encEnt) o), (5, .sl (l.map encEnt) o), (6, .i (l.map encEnt).length), (7, .i k)]) (fun _ => H) (fun k => l.length - k) 0 ⟨Nat.zero_le _, rfl⟩ (Fr.sub_cons rfl (Fr.sub_cons rfl (Fr.sub_cons rfl (Fr.sub_cons rfl (Fr.sub_nil _))))) (AHeap.sub_refl _) ?_
  intro k ⟨hk, hr⟩
  repeat (first | refine w1 rfl rfl ?_ | refine w2 rfl ?_ | refine w3 rfl rfl ?_ | refine w4 ?_ | refine w5 ?_ | refine w6 ?_ | refine w7 ?_ | refine w8 rfl ?_ | refine w9 rfl ?_ | refine wa ?_ | refine wd ?_ | refine we ?_ | refine wb ?_ | refine wc ?_ | refine wf ?_ | refine wg ?_ | refine wh ?_ | refine wi rfl ?_ | refine wj ?_ | refine wk ?_ | refine wl ?_ | refine wm ?_ | refine wn ?_)
  refine aw_cond rfl (fun c => ?_) (fun c => ?_)
  · have c' : k < l.length := by simpa using c
    repeat (first | refine w1 rfl rfl ?_ | refine w2 rfl ?_ | refine w3 rfl rfl ?_ | refine w4 ?_ | refine w5 ?_ | refine w6 ?_ | refine w7 ?_ | refine w8 rfl ?_ | refine w9 rfl ?_ | refine wa ?_ | refine wd ?_ | refine we ?_ | refine wb ?_ | refine wc ?_ | refine wf ?_ | refine wg ?_ | refine wh ?_ | refine wi rfl ?_ | refine wj ?_ | refine wk ?_ | refine wl ?_ | refine wm ?_ | refine wn ?_)
    refine s_index tk rfl rfl rfl rfl (by omega) (show (l.map encEnt)[(k : Int).toNat]? = some (encEnt l[k]) by simp [c']) rfl ?_
    repeat (first | refine w1 rfl rfl ?_ | refine w2 rfl ?_ | refine w3 rfl rfl ?_ | refine w4 ?_ | refine w5 ?_ | refine w6 ?_ | refine w7 ?_ | refine w8 rfl ?_ | refine w9 rfl ?_ | refine wa ?_ | refine wd ?_ | refine we ?_ | refine wb ?_ | refine wc ?_ | refine wf ?_ | refine wg ?_ | refine wh ?_ | refine wi rfl ?_ | refine wj ?_ | refine wk ?_ | refine wl ?_ | refine wm ?_ | refine wn ?_)
    refine s_epta (ds := encEnt l[k]) tk rfl rfl rfl (Nat.le_refl 2) rfl ?_
    repeat (first | refine w1 rfl rfl ?_ | refine w2 rfl ?_ | refine w3 rfl rfl ?_ | refine w4 ?_ | refine w5 ?_ | refine w6 ?_ | refine w7 ?_ | refine w8 rfl ?_ | refine w9 rfl ?_ | refine wa ?_ | refine wd ?_ | refine we ?_ | refine wb ?_ | refine wc ?_ | refine wf ?_ | refine wg ?_ | refine wh ?_ | refine wi rfl ?_ | refine wj ?_ | refine wk ?_ | refine wl ?_ | refine wm ?_ | refine wn ?_)
    refine s_alloc tk rfl rfl rfl (fun b4 h4 => ?_)
    repeat (first | refine w1 rfl rfl ?_ | refine w2 rfl ?_ | refine w3 rfl rfl ?_ | refine w4 ?_ | refine w5 ?_ | refine w6 ?_ | refine w7 ?_ | refine w8 rfl ?_ | refine w9 rfl ?_ | refine wa ?_ | refine wd ?_ | refine we ?_ | refine wb ?_ | refine wc ?_ | refine wf ?_ | refine wg ?_ | refine wh ?_ | refine wi rfl ?_ | refine wj ?_ | refine wk ?_ | refine wl ?_ | refine wm ?_ | refine wn ?_)
    refine s_storew tk rfl rfl (put_same _ _ _) rfl rfl rfl rfl ?_
    rw [put_put]
    repeat (first | refine w1 rfl rfl ?_ | refine w2 rfl ?_ | refine w3 rfl rfl ?_ | refine w4 ?_ | refine w5 ?_ | refine w6 ?_ | refine w7 ?_ | refine w8 rfl ?_ | refine w9 rfl ?_ | refine wa ?_ | refine wd ?_ | refine we ?_ | refine wb ?_ | refine wc ?_ | refine wf ?_ | refine wg ?_ | refine wh ?_ | refine wi rfl ?_ | refine wj ?_ | refine wk ?_ | refine wl ?_ | refine wm ?_ | refine wn ?_)
    refine aw_prot [b4] (allc (.inl (put_same _ _ _)) (allc0 _)) ?_
    have hro := prot_get (bs := [b4]) (List.mem_singleton.2 rfl) (.inl (put_same H b4 (.cells (encEnt l[k]))))
    have hdrop : l.drop k = l[k] :: l.drop (k + 1) := List.drop_eq_getElem_cons c'
    have hnext : prevAt l (k + 1) = some l[k].name := by simp [prevAt, c']
    have hstep : risingFrom none l = (nameOk l[k].name && decide (1 ≤ l[k].node) && (match prevAt l k with | none => true | some p => Op.bytesLess p.toList l[k].name.toList) && risingFrom (some l[k].name) (l.drop (k + 1))) := by rw [hr, hdrop]; rfl
    clear hr hdrop
    refine aw_plan mixed (.take 0 (.take 1 (.one 2 (.take 3 (.take 4 (.take 5 (.take 6 (.take 7 (.take 8 (.take 9 (.take 10 (.take 11 (.take 12 (.take 13 (.take 14 (.take 15 (.take 16 (.take 17 (.take 18 (.take 19 (.take 20 (.take 21 (.take 22 (.take 23 .done)))))))))))))))))))))))) (by kernel_rfl) ?_
    repeat (first | refine d1 rfl rfl rfl rfl ?_ | refine d2 rfl rfl rfl ?_ | refine d3 ?_)
    refine d_ro rfl rfl rfl rfl hro rfl rfl ?_
    repeat (first | refine d1 rfl rfl rfl rfl ?_ | refine d2 rfl rfl rfl ?_ | refine d3 ?_)
    refine d4 rfl ?_
    refine s_call rfl rfl fk102 ?_
    refine name_c ?_
    refine w4 ?_
    repeat (first | refine d1 rfl rfl rfl rfl ?_ | refine d2 rfl rfl rfl ?_ | refine d3 ?_)
    refine d_split rfl rfl rfl (fun g1 => ?_) (fun g1 => ?_)
    · repeat (first | refine d1 rfl rfl rfl rfl ?_ | refine d2 rfl rfl rfl ?_ | refine d3 ?_)
      refine prot_done ?_
      repeat (first | refine w1 rfl rfl ?_ | refine w2 rfl ?_ | refine w3 rfl rfl ?_ | refine w4 ?_ | refine w5 ?_ | refine w6 ?_ | refine w7 ?_ | refine w8 rfl ?_ | refine w9 rfl ?_ | refine wa ?_ | refine wd ?_ | refine we ?_ | refine wb ?_ | refine wc ?_ | refine wf ?_ | refine wg ?_ | refine wh ?_ | refine wi rfl ?_ | refine wj ?_ | refine wk ?_ | refine wl ?_ | refine wm ?_ | refine wn ?_)
      refine rt1 rfl rfl (.refl _) (sub_new h4 (AHeap.sub_refl _)) ?_
      have : rising l = false := by
        have g1' : nameOk l[k].name = false := by simpa using g1
        rw [rising, hstep, g1']; simp
      rw [← this]; exact hK
    repeat (first | refine d1 rfl rfl rfl rfl ?_ | refine d2 rfl rfl rfl ?_ | refine d3 ?_)
    refine d_ro rfl rfl rfl rfl hro rfl rfl ?_
    repeat (first | refine d1 rfl rfl rfl rfl ?_ | refine d2 rfl rfl rfl ?_ | refine d3 ?_)
    refine d_split rfl rfl rfl (fun g2 => ?_) (fun g2 => ?_)
    · repeat (first | refine d1 rfl rfl rfl rfl ?_ | refine d2 rfl rfl rfl ?_ | refine d3 ?_)
      refine prot_done ?_
      repeat (first | refine w1 rfl rfl ?_ | refine w2 rfl ?_ | refine w3 rfl rfl ?_ | refine w4 ?_ | refine w5 ?_ | refine w6 ?_ | refine w7 ?_ | refine w8 rfl ?_ | refine w9 rfl ?_ | refine wa ?_ | refine wd ?_ | refine we ?_ | refine wb ?_ | refine wc ?_ | refine wf ?_ | refine wg ?_ | refine wh ?_ | refine wi rfl ?_ | refine wj ?_ | refine wk ?_ | refine wl ?_ | refine wm ?_ | refine wn ?_)
      refine rt1 rfl rfl (.refl _) (sub_new h4 (AHeap.sub_refl _)) ?_
      have : rising l = false := by
        have : ¬ 1 ≤ l[k].node := by simp at g2; omega
        rw [rising, hstep, decide_eq_false this]; simp
      rw [← this]; exact hK
    repeat (first | refine d1 rfl rfl rfl rfl ?_ | refine d2 rfl rfl rfl ?_ | refine d3 ?_)
    have g2' : decide (1 ≤ l[k].node) = true := by simp at g2 ⊢; omega
    have g1' : nameOk l[k].name = true := by simpa using g1
    refine d_split rfl rfl rfl (fun g3 => ?_) (fun g3 => ?_)
    · have hk0 : 0 < k := by simpa using g3
      have hprev : prevAt l k = some l[k - 1].name := by simp only [prevAt, show ¬ k = 0 by omega, if_false]; rw [List.getElem?_eq_getElem (by omega)]; rfl
      repeat (first | refine d1 rfl rfl rfl rfl ?_ | refine d2 rfl rfl rfl ?_ | refine d3 ?_)
      refine d_sub rfl rfl rfl rfl rfl (by omega) ?_
      repeat (first | refine d1 rfl rfl rfl rfl ?_ | refine d2 rfl rfl rfl ?_ | refine d3 ?_)
      refine d_index rfl rfl rfl rfl rfl rfl (by omega) (show (l.map encEnt)[((k : Int) - 1).toNat]? = some (encEnt l[k - 1]) by rw [show ((k : Int) - 1).toNat = k - 1 by omega]; simp [show k - 1 < l.length by omega]) rfl ?_
      repeat (first | refine d1 rfl rfl rfl rfl ?_ | refine d2 rfl rfl rfl ?_ | refine d3 ?_)
      refine d_ept rfl rfl rfl rfl rfl rfl ?_
      repeat (first | refine d1 rfl rfl rfl rfl ?_ | refine d2 rfl rfl rfl ?_ | refine d3 ?_)
      refine d_ro rfl rfl rfl rfl hro rfl rfl ?_
      repeat (first | refine d1 rfl rfl rfl rfl ?_ | refine d2 rfl rfl rfl ?_ | refine d3 ?_)
      refine prot_done ?_
      repeat (first | refine w1 rfl rfl ?_ | refine w2 rfl ?_ | refine w3 rfl rfl ?_ | refine w4 ?_ | refine w5 ?_ | refine w6 ?_ | refine w7 ?_ | refine w8 rfl ?_ | refine w9 rfl ?_ | refine wa ?_ | refine wd ?_ | refine we ?_ | refine wb ?_ | refine wc ?_ | refine wf ?_ | refine wg ?_ | refine wh ?_ | refine wi rfl ?_ | refine wj ?_ | refine wk ?_ | refine wl ?_ | refine wm ?_ | refine wn ?_)
      refine aw_cond rfl (fun g4 => ?_) (fun g4 => ?_)
      · repeat (first | refine w1 rfl rfl ?_ | refine w2 rfl ?_ | refine w3 rfl rfl ?_ | refine w4 ?_ | refine w5 ?_ | refine w6 ?_ | refine w7 ?_ | refine w8 rfl ?_ | refine w9 rfl ?_ | refine wa ?_ | refine wd ?_ | refine we ?_ | refine wb ?_ | refine wc ?_ | refine wf ?_ | refine wg ?_ | refine wh ?_ | refine wi rfl ?_ | refine wj ?_ | refine wk ?_ | refine wl ?_ | refine wm ?_ | refine wn ?_)
        refine rt1 rfl rfl (.refl _) (sub_new h4 (AHeap.sub_refl _)) ?_
        have : rising l = false := by
          have g5 : Op.bytesLess l[k - 1].name.toList l[k].name.toList = false := by simpa using g4
          rw [rising, hstep, hprev]; simp [g5]
        rw [← this]; exact hK
      · repeat (first | refine w1 rfl rfl ?_ | refine w2 rfl ?_ | refine w3 rfl rfl ?_ | refine w4 ?_ | refine w5 ?_ | refine w6 ?_ | refine w7 ?_ | refine w8 rfl ?_ | refine w9 rfl ?_ | refine wa ?_ | refine wd ?_ | refine we ?_ | refine wb ?_ | refine wc ?_ | refine wf ?_ | refine wg ?_ | refine wh ?_ | refine wi rfl ?_ | refine wj ?_ | refine wk ?_ | refine wl ?_ | refine wm ?_ | refine wn ?_)
        refine s_add rfl rfl rfl (by omega) ?_
        repeat (first | refine w1 rfl rfl ?_ | refine w2 rfl ?_ | refine w3 rfl rfl ?_ | refine w4 ?_ | refine w5 ?_ | refine w6 ?_ | refine w7 ?_ | refine w8 rfl ?_ | refine w9 rfl ?_ | refine wa ?_ | refine wd ?_ | refine we ?_ | refine wb ?_ | refine wc ?_ | refine wf ?_ | refine wg ?_ | refine wh ?_ | refine wi rfl ?_ | refine wj ?_ | refine wk ?_ | refine wl ?_ | refine wm ?_ | refine wn ?_)
        refine ⟨k + 1, ⟨by omega, ?_⟩, by omega, Fr.sub_cons rfl (Fr.sub_cons rfl (Fr.sub_cons rfl (Fr.sub_cons rfl (Fr.sub_nil _)))), sub_new h4 (AHeap.sub_refl _)⟩
        have g5 : Op.bytesLess l[k - 1].name.toList l[k].name.toList = true := by simpa using g4
        rw [hstep, hprev, hnext, g1', g2']; simp only [g5, Bool.and_true, Bool.true_and]
    · have hk0 : k = 0 := by simpa using g3
      repeat (first | refine d1 rfl rfl rfl rfl ?_ | refine d2 rfl rfl rfl ?_ | refine d3 ?_)
      refine prot_done ?_
      repeat (first | refine w1 rfl rfl ?_ | refine w2 rfl ?_ | refine w3 rfl rfl ?_ | refine w4 ?_ | refine w5 ?_ | refine w6 ?_ | refine w7 ?_ | refine w8 rfl ?_ | refine w9 rfl ?_ | refine wa ?_ | refine wd ?_ | refine we ?_ | refine wb ?_ | refine wc ?_ | refine wf ?_ | refine wg ?_ | refine wh ?_ | refine wi rfl ?_ | refine wj ?_ | refine wk ?_ | refine wl ?_ | refine wm ?_ | refine wn ?_)
      refine s_add rfl rfl rfl (by omega) ?_
      repeat (first | refine w1 rfl rfl ?_ | refine w2 rfl ?_ | refine w3 rfl rfl ?_ | refine w4 ?_ | refine w5 ?_ | refine w6 ?_ | refine w7 ?_ | refine w8 rfl ?_ | refine w9 rfl ?_ | refine wa ?_ | refine wd ?_ | refine we ?_ | refine wb ?_ | refine wc ?_ | refine wf ?_ | refine wg ?_ | refine wh ?_ | refine wi rfl ?_ | refine wj ?_ | refine wk ?_ | refine wl ?_ | refine wm ?_ | refine wn ?_)
      refine ⟨k + 1, ⟨by omega, ?_⟩, by omega, Fr.sub_cons rfl (Fr.sub_cons rfl (Fr.sub_cons rfl (Fr.sub_cons rfl (Fr.sub_nil _)))), sub_new h4 (AHeap.sub_refl _)⟩
      rw [hstep, hnext, g1', g2', prevAt, if_pos hk0]; simp only [Bool.and_true, Bool.true_and]
  · have hkl : k = l.length := by have : ¬ k < l.length := by simpa using c
                                  omega
    subst hkl
    repeat (first | refine w1 rfl rfl ?_ | refine w2 rfl ?_ | refine w3 rfl rfl ?_ | refine w4 ?_ | refine w5 ?_ | refine w6 ?_ | refine w7 ?_ | refine w8 rfl ?_ | refine w9 rfl ?_ | refine wa ?_ | refine wd ?_ | refine we ?_ | refine wb ?_ | refine wc ?_ | refine wf ?_ | refine wg ?_ | refine wh ?_ | refine wi rfl ?_ | refine wj ?_ | refine wk ?_ | refine wl ?_ | refine wm ?_ | refine wn ?_)
    refine rt1 rfl rfl (.refl _) (AHeap.sub_refl _) ?_
    have : rising l = decide (((l.map encEnt).length : Int) ≤ 8) := by simp [rising, hr, risingFrom]
    rw [← this]; exact hK
end Abs
end Go.Proofs.Ytnjdkhfdjkjocaa
