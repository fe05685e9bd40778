import Derived.Test.YtnjdkhfdjkjocaaL3
set_option linter.unusedVariables false
namespace Go.Proofs.Ytnjdkhfdjkjocaa
namespace Abs
set_option maxRecDepth 10000

def encU (U : List Bool) : List AVal := U.map (fun b => .b b)
theorem encU_get {U : List Bool} {i : Nat} {b : Bool} (h : U[i]? = some b) : (encU U)[i]? = some (.b b) := by simp [encU, h]
theorem encU_set (U : List Bool) (i : Nat) (b : Bool) : (encU U).set i (.b b) = encU (U.set i b) := by simp [encU, List.map_set]
theorem encU_len (U : List Bool) : (encU U).length = U.length := by simp [encU]

def leastR (room : Nat) : Int := min (max (room : Int) 1) 24

set_option maxHeartbeats 4000000 in
theorem tableLeast_c {room : Nat} {l : List Ac} {o : Own} {H : AHeap} {K : AVal → AHeap → Prop} (hroom : room < 256) (hl : l.length ≤ 9223372036854775807) (hn : ∀ a ∈ l, a.n.len) (hK : K (.b true) H) :
    ACalls Try.prog 3 [.sc (.int .u8 room), .sl (l.map encAc) o] H K := by
  refine acalls_body Try.func3 rfl rfl rfl ?_
  repeat (first | refine w1 rfl rfl ?_ | refine w2 rfl ?_ | refine w3 rfl rfl ?_ | refine w4 ?_ | refine w5 ?_ | refine w6 ?_ | refine w7 ?_ | refine w8 rfl ?_ | refine w9 rfl ?_ | refine wa ?_ | refine wd ?_ | refine we ?_ | refine wb ?_ | refine wc ?_ | refine wf ?_ | refine wg ?_ | refine wh ?_ | refine wi rfl ?_ | refine wj ?_ | refine wk ?_ | refine wl ?_ | refine wm ?_ | refine wn ?_)
  refine s_call rfl rfl fk13 ?_
  refine awake_c ?_
  repeat (first | refine w1 rfl rfl ?_ | refine w2 rfl ?_ | refine w3 rfl rfl ?_ | refine w4 ?_ | refine w5 ?_ | refine w6 ?_ | refine w7 ?_ | refine w8 rfl ?_ | refine w9 rfl ?_ | refine wa ?_ | refine wd ?_ | refine we ?_ | refine wb ?_ | refine wc ?_ | refine wf ?_ | refine wg ?_ | refine wh ?_ | refine wi rfl ?_ | refine wj ?_ | refine wk ?_ | refine wl ?_ | refine wm ?_ | refine wn ?_)
  refine s_call rfl rfl fk14 ?_
  refine small_c hl hn (fun sm hsm => ?_)
  repeat (first | refine w1 rfl rfl ?_ | refine w2 rfl ?_ | refine w3 rfl rfl ?_ | refine w4 ?_ | refine w5 ?_ | refine w6 ?_ | refine w7 ?_ | refine w8 rfl ?_ | refine w9 rfl ?_ | refine wa ?_ | refine wd ?_ | refine we ?_ | refine wb ?_ | refine wc ?_ | refine wf ?_ | refine wg ?_ | refine wh ?_ | refine wi rfl ?_ | refine wj ?_ | refine wk ?_ | refine wl ?_ | refine wm ?_ | refine wn ?_)
  refine aw_cond rfl (fun c => ?_) (fun c => ?_)
  · repeat (first | refine w1 rfl rfl ?_ | refine w2 rfl ?_ | refine w3 rfl rfl ?_ | refine w4 ?_ | refine w5 ?_ | refine w6 ?_ | refine w7 ?_ | refine w8 rfl ?_ | refine w9 rfl ?_ | refine wa ?_ | refine wd ?_ | refine we ?_ | refine wb ?_ | refine wc ?_ | refine wf ?_ | refine wg ?_ | refine wh ?_ | refine wi rfl ?_ | refine wj ?_ | refine wk ?_ | refine wl ?_ | refine wm ?_ | refine wn ?_)
    exact rt1 rfl rfl (.refl _) (AHeap.sub_refl _) hK
  obtain ⟨h40, hfew⟩ := hsm (by simpa using c)
  clear c
  have hwr : IntKind.i64.wrap (room : Int) = room := wrap_id (by omega)
  repeat (first | refine w1 rfl rfl ?_ | refine w2 rfl ?_ | refine w3 rfl rfl ?_ | refine w4 ?_ | refine w5 ?_ | refine w6 ?_ | refine w7 ?_ | refine w8 rfl ?_ | refine w9 rfl ?_ | refine wa ?_ | refine wd ?_ | refine we ?_ | refine wb ?_ | refine wc ?_ | refine wf ?_ | refine wg ?_ | refine wh ?_ | refine wi rfl ?_ | refine wj ?_ | refine wk ?_ | refine wl ?_ | refine wm ?_ | refine wn ?_)
  refine s_conv tk rfl rfl rfl rfl hwr ?_
  repeat (first | refine w1 rfl rfl ?_ | refine w2 rfl ?_ | refine w3 rfl rfl ?_ | refine w4 ?_ | refine w5 ?_ | refine w6 ?_ | refine w7 ?_ | refine w8 rfl ?_ | refine w9 rfl ?_ | refine wa ?_ | refine wd ?_ | refine we ?_ | refine wb ?_ | refine wc ?_ | refine wf ?_ | refine wg ?_ | refine wh ?_ | refine wi rfl ?_ | refine wj ?_ | refine wk ?_ | refine wl ?_ | refine wm ?_ | refine wn ?_)
  refine s_call rfl rfl fk15 ?_
  refine new_c (fun t ht => ?_)
  repeat (first | refine w1 rfl rfl ?_ | refine w2 rfl ?_ | refine w3 rfl rfl ?_ | refine w4 ?_ | refine w5 ?_ | refine w6 ?_ | refine w7 ?_ | refine w8 rfl ?_ | refine w9 rfl ?_ | refine wa ?_ | refine wd ?_ | refine we ?_ | refine wb ?_ | refine wc ?_ | refine wf ?_ | refine wg ?_ | refine wh ?_ | refine wi rfl ?_ | refine wj ?_ | refine wk ?_ | refine wl ?_ | refine wm ?_ | refine wn ?_)
  refine s_conv tk rfl rfl rfl rfl hwr ?_
  repeat (first | refine w1 rfl rfl ?_ | refine w2 rfl ?_ | refine w3 rfl rfl ?_ | refine w4 ?_ | refine w5 ?_ | refine w6 ?_ | refine w7 ?_ | refine w8 rfl ?_ | refine w9 rfl ?_ | refine wa ?_ | refine wd ?_ | refine we ?_ | refine wb ?_ | refine wc ?_ | refine wf ?_ | refine wg ?_ | refine wh ?_ | refine wi rfl ?_ | refine wj ?_ | refine wk ?_ | refine wl ?_ | refine wm ?_ | refine wn ?_)
  have hr : (if 24 < (if 1 > (room : Int) then 1 else (room : Int)) then 24 else if 1 > (room : Int) then 1 else (room : Int)) = (Tab.new room).room := by
    simp only [Tab.new]
    split <;> split at * <;> omega
  rw [hr]
  refine s_make tk rfl rfl rfl rfl rfl rfl (by decide) (by decide) (by decide) (fun b hb => ?_)
  obtain ⟨hbt, hb'⟩ := put_none hb
  repeat (first | refine w1 rfl rfl ?_ | refine w2 rfl ?_ | refine w3 rfl rfl ?_ | refine w4 ?_ | refine w5 ?_ | refine w6 ?_ | refine w7 ?_ | refine w8 rfl ?_ | refine w9 rfl ?_ | refine wa ?_ | refine wd ?_ | refine we ?_ | refine wb ?_ | refine wc ?_ | refine wf ?_ | refine wg ?_ | refine wh ?_ | refine wi rfl ?_ | refine wj ?_ | refine wk ?_ | refine wl ?_ | refine wm ?_ | refine wn ?_)
  have hU0 : rep (26 : Int).toNat [AVal.b false] = encU (List.replicate 26 false) := rfl
  rw [hU0]
  have hh : ∃ HH : Tab → List Bool → AHeap, HH = fun T U => (H.put t (.cells (encTab T))).put b (.cells (encU U)) := ⟨_, rfl⟩
  obtain ⟨HH, hHH⟩ := hh
  have hT : ∀ T U, HH T U t = some (.cells (encTab T)) := fun T U => by rw [hHH]; show AHeap.put _ _ _ t = _; rw [put_ne (Ne.symm hbt), put_same]
  have hB : ∀ T U, HH T U b = some (.cells (encU U)) := fun T U => by rw [hHH]; exact put_same _ _ _
  have sT : ∀ T U T', (HH T U).put t (.cells (encTab T')) = HH T' U := fun T U T' => by rw [hHH]; show (AHeap.put _ _ _).put _ _ = _; rw [put_comm (Ne.symm hbt), put_put]
  have sB : ∀ T U U', (HH T U).put b (.cells (encU U')) = HH T U' := fun T U U' => by rw [hHH]; exact put_put _ _ _ _
  have hsub : ∀ T U, H.sub (HH T U) := fun T U => by rw [hHH]; exact sub_new hb' (sub_new ht (AHeap.sub_refl _))
  have hstart : (H.put t (.cells (encTab (Tab.new room)))).put b (.cells (encU (List.replicate 26 false))) = HH (Tab.new room) (List.replicate 26 false) := by rw [hHH]
  rw [hstart]
  clear hstart hHH hU0
  generalize hrr : (Tab.new room).room = r
  have hr24 : 1 ≤ r ∧ r ≤ 24 := by rw [← hrr]; exact (new_wf _).2.1
  refine aw_loop (fun s : Nat × Tab × List Bool => s.1 ≤ l.length ∧ s.2.1.wf ∧ s.2.1.room = r ∧ Track s.2.1 s.2.2)
    (fun s => [(1, .sl (l.map encAc) o), (7, .ptr t 0), (8, .i r), (9, .row b 0 26 26), (10, .i s.2.1.used), (11, .i s.1)]) (fun s => HH s.2.1 s.2.2) (fun s => l.length - s.1) (0, Tab.new room, List.replicate 26 false)
    ⟨Nat.zero_le _, new_wf _, hrr, track_new _⟩ ?_ (AHeap.sub_refl _) ?_
  · refine Fr.sub_cons rfl (Fr.sub_cons rfl (Fr.sub_cons rfl (Fr.sub_cons rfl (Fr.sub_cons ?_ (Fr.sub_cons rfl (Fr.sub_nil _))))))
    rw [used_new]; rfl
  rintro ⟨k, T, U⟩ ⟨hk, hw, hTr, hTU⟩
  have hll : (l.map encAc).length = l.length := by simp
  simp only at hk hw hTr hTU
  have hfin : ∀ {F' : Fr} {H' : AHeap} {T' : Tab} {U' : List Bool}, T'.wf → T'.room = r → Track T' U' → k < l.length → (Fr.sub [(1, .sl (l.map encAc) o), (7, .ptr t 0), (8, .i r), (9, .row b 0 26 26), (10, .i T'.used), (11, .i ((k + 1 : Nat) : Int))] F') → (HH T' U').sub H' →
      ∃ s' : Nat × Tab × List Bool, (s'.1 ≤ l.length ∧ s'.2.1.wf ∧ s'.2.1.room = r ∧ Track s'.2.1 s'.2.2) ∧ l.length - s'.1 < l.length - k ∧ (Fr.sub [(1, .sl (l.map encAc) o), (7, .ptr t 0), (8, .i r), (9, .row b 0 26 26), (10, .i s'.2.1.used), (11, .i s'.1)] F') ∧ (HH s'.2.1 s'.2.2).sub H' :=
    fun h1 h2 h3 h4 h5 h6 => ⟨(k + 1, _, _), ⟨h4, h1, h2, h3⟩, by simp only; omega, h5, h6⟩
  have hsix : ∀ {F' : Fr} {v1 v2 v3 v4 v5 v6 : AVal}, F'.get 1 = some v1 → F'.get 7 = some v2 → F'.get 8 = some v3 → F'.get 9 = some v4 → F'.get 10 = some v5 → F'.get 11 = some v6 → Fr.sub [(1, v1), (7, v2), (8, v3), (9, v4), (10, v5), (11, v6)] F' :=
    fun h1 h2 h3 h4 h5 h6 => Fr.sub_cons h1 (Fr.sub_cons h2 (Fr.sub_cons h3 (Fr.sub_cons h4 (Fr.sub_cons h5 (Fr.sub_cons h6 (Fr.sub_nil _))))))
  repeat (first | refine w1 rfl rfl ?_ | refine w2 rfl ?_ | refine w3 rfl rfl ?_ | refine w4 ?_ | refine w5 ?_ | refine w6 ?_ | refine w7 ?_ | refine w8 rfl ?_ | refine w9 rfl ?_ | refine wa ?_ | refine wd ?_ | refine we ?_ | refine wb ?_ | refine wc ?_ | refine wf ?_ | refine wg ?_ | refine wh ?_ | refine wi rfl ?_ | refine wj ?_ | refine wk ?_ | refine wl ?_ | refine wm ?_ | refine wn ?_)
  refine aw_cond rfl (fun c => ?_) (fun c => ?_)
  case refine_2 =>
    repeat (first | refine w1 rfl rfl ?_ | refine w2 rfl ?_ | refine w3 rfl rfl ?_ | refine w4 ?_ | refine w5 ?_ | refine w6 ?_ | refine w7 ?_ | refine w8 rfl ?_ | refine w9 rfl ?_ | refine wa ?_ | refine wd ?_ | refine we ?_ | refine wb ?_ | refine wc ?_ | refine wf ?_ | refine wg ?_ | refine wh ?_ | refine wi rfl ?_ | refine wj ?_ | refine wk ?_ | refine wl ?_ | refine wm ?_ | refine wn ?_)
    exact rt1 rfl rfl (.refl _) (hsub _ _) hK
  have c' : k < l.length := by simpa using c
  have hget : (l.map encAc)[(k : Int).toNat]? = some (encAc l[k]) := by simp [c']
  have hfk : l[k].n.few := hfew _ (List.getElem_mem c')
  generalize l[k] = a at hget hfk
  repeat (first | refine w1 rfl rfl ?_ | refine w2 rfl ?_ | refine w3 rfl rfl ?_ | refine w4 ?_ | refine w5 ?_ | refine w6 ?_ | refine w7 ?_ | refine w8 rfl ?_ | refine w9 rfl ?_ | refine wa ?_ | refine wd ?_ | refine we ?_ | refine wb ?_ | refine wc ?_ | refine wf ?_ | refine wg ?_ | refine wh ?_ | refine wi rfl ?_ | refine wj ?_ | refine wk ?_ | refine wl ?_ | refine wm ?_ | refine wn ?_)
  refine s_index tk rfl rfl rfl rfl (by omega) hget rfl ?_
  repeat (first | refine w1 rfl rfl ?_ | refine w2 rfl ?_ | refine w3 rfl rfl ?_ | refine w4 ?_ | refine w5 ?_ | refine w6 ?_ | refine w7 ?_ | refine w8 rfl ?_ | refine w9 rfl ?_ | refine wa ?_ | refine wd ?_ | refine we ?_ | refine wb ?_ | refine wc ?_ | refine wf ?_ | refine wg ?_ | refine wh ?_ | refine wi rfl ?_ | refine wj ?_ | refine wk ?_ | refine wl ?_ | refine wm ?_ | refine wn ?_ | refine s_load tk rfl rfl (by assumption) rfl rfl ?_ | refine s_ept tk rfl rfl rfl rfl ?_)
  refine aw_cond rfl (fun d => ?_) (fun d => ?_)
  · have hd1 : (a.kind : Int) = 1 := by simpa using d
    repeat (first | refine w1 rfl rfl ?_ | refine w2 rfl ?_ | refine w3 rfl rfl ?_ | refine w4 ?_ | refine w5 ?_ | refine w6 ?_ | refine w7 ?_ | refine w8 rfl ?_ | refine w9 rfl ?_ | refine wa ?_ | refine wd ?_ | refine we ?_ | refine wb ?_ | refine wc ?_ | refine wf ?_ | refine wg ?_ | refine wh ?_ | refine wi rfl ?_ | refine wj ?_ | refine wk ?_ | refine wl ?_ | refine wm ?_ | refine wn ?_)
    refine s_index tk rfl rfl rfl rfl (by omega) hget rfl ?_
    repeat (first | refine w1 rfl rfl ?_ | refine w2 rfl ?_ | refine w3 rfl rfl ?_ | refine w4 ?_ | refine w5 ?_ | refine w6 ?_ | refine w7 ?_ | refine w8 rfl ?_ | refine w9 rfl ?_ | refine wa ?_ | refine wd ?_ | refine we ?_ | refine wb ?_ | refine wc ?_ | refine wf ?_ | refine wg ?_ | refine wh ?_ | refine wi rfl ?_ | refine wj ?_ | refine wk ?_ | refine wl ?_ | refine wm ?_ | refine wn ?_)
    refine s_epta (ds := encNode a.n) tk rfl rfl rfl (Nat.le_refl 9) rfl ?_
    repeat (first | refine w1 rfl rfl ?_ | refine w2 rfl ?_ | refine w3 rfl rfl ?_ | refine w4 ?_ | refine w5 ?_ | refine w6 ?_ | refine w7 ?_ | refine w8 rfl ?_ | refine w9 rfl ?_ | refine wa ?_ | refine wd ?_ | refine we ?_ | refine wb ?_ | refine wc ?_ | refine wf ?_ | refine wg ?_ | refine wh ?_ | refine wi rfl ?_ | refine wj ?_ | refine wk ?_ | refine wl ?_ | refine wm ?_ | refine wn ?_)
    refine s_call rfl rfl fk16 ?_
    refine add_c hw hfk.small (hT _ _) (fun _ => ?_) (fun m hok hm hall hno => ?_) (fun _ hall => ?_)
    · repeat (first | refine w1 rfl rfl ?_ | refine w2 rfl ?_ | refine w3 rfl rfl ?_ | refine w4 ?_ | refine w5 ?_ | refine w6 ?_ | refine w7 ?_ | refine w8 rfl ?_ | refine w9 rfl ?_ | refine wa ?_ | refine wd ?_ | refine we ?_ | refine wb ?_ | refine wc ?_ | refine wf ?_ | refine wg ?_ | refine wh ?_ | refine wi rfl ?_ | refine wj ?_ | refine wk ?_ | refine wl ?_ | refine wm ?_ | refine wn ?_)
      refine s_add rfl rfl rfl (by omega) ?_
      repeat (first | refine w1 rfl rfl ?_ | refine w2 rfl ?_ | refine w3 rfl rfl ?_ | refine w4 ?_ | refine w5 ?_ | refine w6 ?_ | refine w7 ?_ | refine w8 rfl ?_ | refine w9 rfl ?_ | refine wa ?_ | refine wd ?_ | refine we ?_ | refine wb ?_ | refine wc ?_ | refine wf ?_ | refine wg ?_ | refine wh ?_ | refine wi rfl ?_ | refine wj ?_ | refine wk ?_ | refine wl ?_ | refine wm ?_ | refine wn ?_)
      exact hfin hw hTr hTU c' (hsix rfl rfl rfl rfl rfl rfl) (AHeap.sub_refl _)
    · have hmr : (m : Int) < r := by rw [← hTr]; exact hm
      have hgm : U[m + 1]? = some false := by rw [hTU.2 m (by omega), hno]
      rw [sT]
      repeat (first | refine w1 rfl rfl ?_ | refine w2 rfl ?_ | refine w3 rfl rfl ?_ | refine w4 ?_ | refine w5 ?_ | refine w6 ?_ | refine w7 ?_ | refine w8 rfl ?_ | refine w9 rfl ?_ | refine wa ?_ | refine wd ?_ | refine we ?_ | refine wb ?_ | refine wc ?_ | refine wf ?_ | refine wg ?_ | refine wh ?_ | refine wi rfl ?_ | refine wj ?_ | refine wk ?_ | refine wl ?_ | refine wm ?_ | refine wn ?_)
      refine s_gsplit rfl rfl (fun e => ?_) (fun _ => ?_)
      · exact absurd e (by simp; omega)
      repeat (first | refine w1 rfl rfl ?_ | refine w2 rfl ?_ | refine w3 rfl rfl ?_ | refine w4 ?_ | refine w5 ?_ | refine w6 ?_ | refine w7 ?_ | refine w8 rfl ?_ | refine w9 rfl ?_ | refine wa ?_ | refine wd ?_ | refine we ?_ | refine wb ?_ | refine wc ?_ | refine wf ?_ | refine wg ?_ | refine wh ?_ | refine wi rfl ?_ | refine wj ?_ | refine wk ?_ | refine wl ?_ | refine wm ?_ | refine wn ?_)
      refine s_indexr tk rfl rfl rfl rfl (by omega) (by omega) ?_
      repeat (first | refine w1 rfl rfl ?_ | refine w2 rfl ?_ | refine w3 rfl rfl ?_ | refine w4 ?_ | refine w5 ?_ | refine w6 ?_ | refine w7 ?_ | refine w8 rfl ?_ | refine w9 rfl ?_ | refine wa ?_ | refine wd ?_ | refine we ?_ | refine wb ?_ | refine wc ?_ | refine wf ?_ | refine wg ?_ | refine wh ?_ | refine wi rfl ?_ | refine wj ?_ | refine wk ?_ | refine wl ?_ | refine wm ?_ | refine wn ?_)
      refine s_load tk rfl rfl (.inl (hB _ _)) rfl (show (encU U)[0 + ((m : Int) + 1).toNat * 1]? = some (.b false) by rw [show 0 + ((m : Int) + 1).toNat * 1 = m + 1 by omega]; exact encU_get hgm) ?_
      repeat (first | refine w1 rfl rfl ?_ | refine w2 rfl ?_ | refine w3 rfl rfl ?_ | refine w4 ?_ | refine w5 ?_ | refine w6 ?_ | refine w7 ?_ | refine w8 rfl ?_ | refine w9 rfl ?_ | refine wa ?_ | refine wd ?_ | refine we ?_ | refine wb ?_ | refine wc ?_ | refine wf ?_ | refine wg ?_ | refine wh ?_ | refine wi rfl ?_ | refine wj ?_ | refine wk ?_ | refine wl ?_ | refine wm ?_ | refine wn ?_)
      refine aw_loop (fun j : Nat => 1 ≤ j ∧ j ≤ m + 1) (fun j => [(1, .sl (l.map encAc) o), (7, .ptr t 0), (8, .i r), (9, .row b 0 26 26), (10, .i T.used), (11, .i k), (12, .i ((m : Int) + 1)), (14, .i j)]) (fun _ => HH (T.put m a.n) U) (fun j => m + 1 - j) 1 ⟨Nat.le_refl _, by omega⟩
        (Fr.sub_cons rfl (Fr.sub_cons rfl (Fr.sub_cons rfl (Fr.sub_cons rfl (Fr.sub_cons rfl (Fr.sub_cons rfl (Fr.sub_cons rfl (Fr.sub_cons rfl (Fr.sub_nil _))))))))) (AHeap.sub_refl _) ?_
      rintro j ⟨hj1, hj2⟩
      repeat (first | refine w1 rfl rfl ?_ | refine w2 rfl ?_ | refine w3 rfl rfl ?_ | refine w4 ?_ | refine w5 ?_ | refine w6 ?_ | refine w7 ?_ | refine w8 rfl ?_ | refine w9 rfl ?_ | refine wa ?_ | refine wd ?_ | refine we ?_ | refine wb ?_ | refine wc ?_ | refine wf ?_ | refine wg ?_ | refine wh ?_ | refine wi rfl ?_ | refine wj ?_ | refine wk ?_ | refine wl ?_ | refine wm ?_ | refine wn ?_)
      refine aw_cond rfl (fun e => ?_) (fun e => ?_)
      · have e' : (j : Int) < (m : Int) + 1 := by simpa using e
        repeat (first | refine w1 rfl rfl ?_ | refine w2 rfl ?_ | refine w3 rfl rfl ?_ | refine w4 ?_ | refine w5 ?_ | refine w6 ?_ | refine w7 ?_ | refine w8 rfl ?_ | refine w9 rfl ?_ | refine wa ?_ | refine wd ?_ | refine we ?_ | refine wb ?_ | refine wc ?_ | refine wf ?_ | refine wg ?_ | refine wh ?_ | refine wi rfl ?_ | refine wj ?_ | refine wk ?_ | refine wl ?_ | refine wm ?_ | refine wn ?_)
        refine s_indexr tk rfl rfl rfl rfl (by omega) (by omega) ?_
        repeat (first | refine w1 rfl rfl ?_ | refine w2 rfl ?_ | refine w3 rfl rfl ?_ | refine w4 ?_ | refine w5 ?_ | refine w6 ?_ | refine w7 ?_ | refine w8 rfl ?_ | refine w9 rfl ?_ | refine wa ?_ | refine wd ?_ | refine we ?_ | refine wb ?_ | refine wc ?_ | refine wf ?_ | refine wg ?_ | refine wh ?_ | refine wi rfl ?_ | refine wj ?_ | refine wk ?_ | refine wl ?_ | refine wm ?_ | refine wn ?_)
        have hgj : U[j]? = some true := by
          have h1 := hTU.2 (j - 1) (by omega)
          have h2 := hall (j - 1) (by omega)
          rw [h2, show j - 1 + 1 = j by omega] at h1
          exact h1
        refine s_load tk rfl rfl (.inl (hB _ _)) rfl (show (encU U)[0 + (j : Int).toNat * 1]? = some (.b true) by rw [show 0 + (j : Int).toNat * 1 = j by omega]; exact encU_get hgj) ?_
        repeat (first | refine w1 rfl rfl ?_ | refine w2 rfl ?_ | refine w3 rfl rfl ?_ | refine w4 ?_ | refine w5 ?_ | refine w6 ?_ | refine w7 ?_ | refine w8 rfl ?_ | refine w9 rfl ?_ | refine wa ?_ | refine wd ?_ | refine we ?_ | refine wb ?_ | refine wc ?_ | refine wf ?_ | refine wg ?_ | refine wh ?_ | refine wi rfl ?_ | refine wj ?_ | refine wk ?_ | refine wl ?_ | refine wm ?_ | refine wn ?_)
        refine s_add rfl rfl rfl (by omega) ?_
        repeat (first | refine w1 rfl rfl ?_ | refine w2 rfl ?_ | refine w3 rfl rfl ?_ | refine w4 ?_ | refine w5 ?_ | refine w6 ?_ | refine w7 ?_ | refine w8 rfl ?_ | refine w9 rfl ?_ | refine wa ?_ | refine wd ?_ | refine we ?_ | refine wb ?_ | refine wc ?_ | refine wf ?_ | refine wg ?_ | refine wh ?_ | refine wi rfl ?_ | refine wj ?_ | refine wk ?_ | refine wl ?_ | refine wm ?_ | refine wn ?_)
        exact ⟨j + 1, ⟨by omega, by omega⟩, by omega, Fr.sub_cons rfl (Fr.sub_cons rfl (Fr.sub_cons rfl (Fr.sub_cons rfl (Fr.sub_cons rfl (Fr.sub_cons rfl (Fr.sub_cons rfl (Fr.sub_cons rfl (Fr.sub_nil _)))))))), AHeap.sub_refl _⟩
      · repeat (first | refine w1 rfl rfl ?_ | refine w2 rfl ?_ | refine w3 rfl rfl ?_ | refine w4 ?_ | refine w5 ?_ | refine w6 ?_ | refine w7 ?_ | refine w8 rfl ?_ | refine w9 rfl ?_ | refine wa ?_ | refine wd ?_ | refine we ?_ | refine wb ?_ | refine wc ?_ | refine wf ?_ | refine wg ?_ | refine wh ?_ | refine wi rfl ?_ | refine wj ?_ | refine wk ?_ | refine wl ?_ | refine wm ?_ | refine wn ?_)
        refine s_indexr tk rfl rfl rfl rfl (by omega) (by omega) ?_
        repeat (first | refine w1 rfl rfl ?_ | refine w2 rfl ?_ | refine w3 rfl rfl ?_ | refine w4 ?_ | refine w5 ?_ | refine w6 ?_ | refine w7 ?_ | refine w8 rfl ?_ | refine w9 rfl ?_ | refine wa ?_ | refine wd ?_ | refine we ?_ | refine wb ?_ | refine wc ?_ | refine wf ?_ | refine wg ?_ | refine wh ?_ | refine wi rfl ?_ | refine wj ?_ | refine wk ?_ | refine wl ?_ | refine wm ?_ | refine wn ?_)
        refine s_store tk rfl rfl (hB _ _) rfl (by rw [encU_len, hTU.1]; omega) rfl ?_
        rw [encU_set, sB]
        repeat (first | refine w1 rfl rfl ?_ | refine w2 rfl ?_ | refine w3 rfl rfl ?_ | refine w4 ?_ | refine w5 ?_ | refine w6 ?_ | refine w7 ?_ | refine w8 rfl ?_ | refine w9 rfl ?_ | refine wa ?_ | refine wd ?_ | refine we ?_ | refine wb ?_ | refine wc ?_ | refine wf ?_ | refine wg ?_ | refine wh ?_ | refine wi rfl ?_ | refine wj ?_ | refine wk ?_ | refine wl ?_ | refine wm ?_ | refine wn ?_)
        have hub := cnt_le T T.room.toNat
        refine s_add rfl rfl rfl (by unfold Tab.used; omega) ?_
        repeat (first | refine w1 rfl rfl ?_ | refine w2 rfl ?_ | refine w3 rfl rfl ?_ | refine w4 ?_ | refine w5 ?_ | refine w6 ?_ | refine w7 ?_ | refine w8 rfl ?_ | refine w9 rfl ?_ | refine wa ?_ | refine wd ?_ | refine we ?_ | refine wb ?_ | refine wc ?_ | refine wf ?_ | refine wg ?_ | refine wh ?_ | refine wi rfl ?_ | refine wj ?_ | refine wk ?_ | refine wl ?_ | refine wm ?_ | refine wn ?_)
        refine s_index tk rfl rfl rfl rfl (by omega) hget rfl ?_
        repeat (first | refine w1 rfl rfl ?_ | refine w2 rfl ?_ | refine w3 rfl rfl ?_ | refine w4 ?_ | refine w5 ?_ | refine w6 ?_ | refine w7 ?_ | refine w8 rfl ?_ | refine w9 rfl ?_ | refine wa ?_ | refine wd ?_ | refine we ?_ | refine wb ?_ | refine wc ?_ | refine wf ?_ | refine wg ?_ | refine wh ?_ | refine wi rfl ?_ | refine wj ?_ | refine wk ?_ | refine wl ?_ | refine wm ?_ | refine wn ?_ | refine s_load tk rfl rfl (by assumption) rfl rfl ?_ | refine s_ept tk rfl rfl rfl rfl ?_)
        refine aw_cond rfl (fun e2 => ?_) (fun _ => ?_)
        · rw [hd1] at e2
          exact absurd e2 (by decide)
        have hwf' := put_wf hw hfk.small m
        have htrk := track_put hw hTU hm a.n
        rw [decide_eq_false (ok_kind hok)] at htrk
        rw [show 0 + ((m : Int) + 1).toNat * 1 = m + 1 by omega]
        have hup := used_put hw hm a.n
        rw [decide_eq_false (ok_kind hok), hno] at hup
        repeat (first | refine w1 rfl rfl ?_ | refine w2 rfl ?_ | refine w3 rfl rfl ?_ | refine w4 ?_ | refine w5 ?_ | refine w6 ?_ | refine w7 ?_ | refine w8 rfl ?_ | refine w9 rfl ?_ | refine wa ?_ | refine wd ?_ | refine we ?_ | refine wb ?_ | refine wc ?_ | refine wf ?_ | refine wg ?_ | refine wh ?_ | refine wi rfl ?_ | refine wj ?_ | refine wk ?_ | refine wl ?_ | refine wm ?_ | refine wn ?_)
        refine s_call rfl rfl fk18 ?_
        refine used_c hwf' (.inl (hT _ _)) ?_
        repeat (first | refine w1 rfl rfl ?_ | refine w2 rfl ?_ | refine w3 rfl rfl ?_ | refine w4 ?_ | refine w5 ?_ | refine w6 ?_ | refine w7 ?_ | refine w8 rfl ?_ | refine w9 rfl ?_ | refine wa ?_ | refine wd ?_ | refine we ?_ | refine wb ?_ | refine wc ?_ | refine wf ?_ | refine wg ?_ | refine wh ?_ | refine wi rfl ?_ | refine wj ?_ | refine wk ?_ | refine wl ?_ | refine wm ?_ | refine wn ?_)
        refine aw_cond rfl (fun e3 => ?_) (fun _ => ?_)
        · rw [hup] at e3
          simp [b2i] at e3
        repeat (first | refine w1 rfl rfl ?_ | refine w2 rfl ?_ | refine w3 rfl rfl ?_ | refine w4 ?_ | refine w5 ?_ | refine w6 ?_ | refine w7 ?_ | refine w8 rfl ?_ | refine w9 rfl ?_ | refine wa ?_ | refine wd ?_ | refine we ?_ | refine wb ?_ | refine wc ?_ | refine wf ?_ | refine wg ?_ | refine wh ?_ | refine wi rfl ?_ | refine wj ?_ | refine wk ?_ | refine wl ?_ | refine wm ?_ | refine wn ?_)
        refine s_add rfl rfl rfl (by omega) ?_
        repeat (first | refine w1 rfl rfl ?_ | refine w2 rfl ?_ | refine w3 rfl rfl ?_ | refine w4 ?_ | refine w5 ?_ | refine w6 ?_ | refine w7 ?_ | refine w8 rfl ?_ | refine w9 rfl ?_ | refine wa ?_ | refine wd ?_ | refine we ?_ | refine wb ?_ | refine wc ?_ | refine wf ?_ | refine wg ?_ | refine wh ?_ | refine wi rfl ?_ | refine wj ?_ | refine wk ?_ | refine wl ?_ | refine wm ?_ | refine wn ?_)
        refine hfin hwf' hTr htrk c' (hsix rfl rfl rfl rfl ?_ rfl) (AHeap.sub_refl _)
        rw [hup]; rfl
    · have hur := used_all hw hall
      repeat (first | refine w1 rfl rfl ?_ | refine w2 rfl ?_ | refine w3 rfl rfl ?_ | refine w4 ?_ | refine w5 ?_ | refine w6 ?_ | refine w7 ?_ | refine w8 rfl ?_ | refine w9 rfl ?_ | refine wa ?_ | refine wd ?_ | refine we ?_ | refine wb ?_ | refine wc ?_ | refine wf ?_ | refine wg ?_ | refine wh ?_ | refine wi rfl ?_ | refine wj ?_ | refine wk ?_ | refine wl ?_ | refine wm ?_ | refine wn ?_)
      refine aw_cond rfl (fun e => ?_) (fun e => ?_)
      · rw [hur, hTr] at e
        simp at e
      · repeat (first | refine w1 rfl rfl ?_ | refine w2 rfl ?_ | refine w3 rfl rfl ?_ | refine w4 ?_ | refine w5 ?_ | refine w6 ?_ | refine w7 ?_ | refine w8 rfl ?_ | refine w9 rfl ?_ | refine wa ?_ | refine wd ?_ | refine we ?_ | refine wb ?_ | refine wc ?_ | refine wf ?_ | refine wg ?_ | refine wh ?_ | refine wi rfl ?_ | refine wj ?_ | refine wk ?_ | refine wl ?_ | refine wm ?_ | refine wn ?_)
        refine s_add rfl rfl rfl (by omega) ?_
        repeat (first | refine w1 rfl rfl ?_ | refine w2 rfl ?_ | refine w3 rfl rfl ?_ | refine w4 ?_ | refine w5 ?_ | refine w6 ?_ | refine w7 ?_ | refine w8 rfl ?_ | refine w9 rfl ?_ | refine wa ?_ | refine wd ?_ | refine we ?_ | refine wb ?_ | refine wc ?_ | refine wf ?_ | refine wg ?_ | refine wh ?_ | refine wi rfl ?_ | refine wj ?_ | refine wk ?_ | refine wl ?_ | refine wm ?_ | refine wn ?_)
        exact hfin hw hTr hTU c' (hsix rfl rfl rfl rfl rfl rfl) (AHeap.sub_refl _)
  · have hd1 : ¬ (a.kind : Int) = 1 := by simpa using d
    have hub := cnt_le T T.room.toNat
    repeat (first | refine w1 rfl rfl ?_ | refine w2 rfl ?_ | refine w3 rfl rfl ?_ | refine w4 ?_ | refine w5 ?_ | refine w6 ?_ | refine w7 ?_ | refine w8 rfl ?_ | refine w9 rfl ?_ | refine wa ?_ | refine wd ?_ | refine we ?_ | refine wb ?_ | refine wc ?_ | refine wf ?_ | refine wg ?_ | refine wh ?_ | refine wi rfl ?_ | refine wj ?_ | refine wk ?_ | refine wl ?_ | refine wm ?_ | refine wn ?_)
    refine s_index tk rfl rfl rfl rfl (by omega) hget rfl ?_
    repeat (first | refine w1 rfl rfl ?_ | refine w2 rfl ?_ | refine w3 rfl rfl ?_ | refine w4 ?_ | refine w5 ?_ | refine w6 ?_ | refine w7 ?_ | refine w8 rfl ?_ | refine w9 rfl ?_ | refine wa ?_ | refine wd ?_ | refine we ?_ | refine wb ?_ | refine wc ?_ | refine wf ?_ | refine wg ?_ | refine wh ?_ | refine wi rfl ?_ | refine wj ?_ | refine wk ?_ | refine wl ?_ | refine wm ?_ | refine wn ?_ | refine s_load tk rfl rfl (by assumption) rfl rfl ?_ | refine s_ept tk rfl rfl rfl rfl ?_)
    refine aw_cond rfl (fun e => ?_) (fun e => ?_)
    case refine_2 =>
      repeat (first | refine w1 rfl rfl ?_ | refine w2 rfl ?_ | refine w3 rfl rfl ?_ | refine w4 ?_ | refine w5 ?_ | refine w6 ?_ | refine w7 ?_ | refine w8 rfl ?_ | refine w9 rfl ?_ | refine wa ?_ | refine wd ?_ | refine we ?_ | refine wb ?_ | refine wc ?_ | refine wf ?_ | refine wg ?_ | refine wh ?_ | refine wi rfl ?_ | refine wj ?_ | refine wk ?_ | refine wl ?_ | refine wm ?_ | refine wn ?_)
      refine s_call rfl rfl fk18 ?_
      refine used_c hw (.inl (hT _ _)) ?_
      repeat (first | refine w1 rfl rfl ?_ | refine w2 rfl ?_ | refine w3 rfl rfl ?_ | refine w4 ?_ | refine w5 ?_ | refine w6 ?_ | refine w7 ?_ | refine w8 rfl ?_ | refine w9 rfl ?_ | refine wa ?_ | refine wd ?_ | refine we ?_ | refine wb ?_ | refine wc ?_ | refine wf ?_ | refine wg ?_ | refine wh ?_ | refine wi rfl ?_ | refine wj ?_ | refine wk ?_ | refine wl ?_ | refine wm ?_ | refine wn ?_)
      refine aw_cond rfl (fun e3 => ?_) (fun _ => ?_)
      · simp at e3
      repeat (first | refine w1 rfl rfl ?_ | refine w2 rfl ?_ | refine w3 rfl rfl ?_ | refine w4 ?_ | refine w5 ?_ | refine w6 ?_ | refine w7 ?_ | refine w8 rfl ?_ | refine w9 rfl ?_ | refine wa ?_ | refine wd ?_ | refine we ?_ | refine wb ?_ | refine wc ?_ | refine wf ?_ | refine wg ?_ | refine wh ?_ | refine wi rfl ?_ | refine wj ?_ | refine wk ?_ | refine wl ?_ | refine wm ?_ | refine wn ?_)
      refine s_add rfl rfl rfl (by omega) ?_
      repeat (first | refine w1 rfl rfl ?_ | refine w2 rfl ?_ | refine w3 rfl rfl ?_ | refine w4 ?_ | refine w5 ?_ | refine w6 ?_ | refine w7 ?_ | refine w8 rfl ?_ | refine w9 rfl ?_ | refine wa ?_ | refine wd ?_ | refine we ?_ | refine wb ?_ | refine wc ?_ | refine wf ?_ | refine wg ?_ | refine wh ?_ | refine wi rfl ?_ | refine wj ?_ | refine wk ?_ | refine wl ?_ | refine wm ?_ | refine wn ?_)
      exact hfin hw hTr hTU c' (hsix rfl rfl rfl rfl rfl rfl) (AHeap.sub_refl _)
    have hbad : ∀ {F' : Fr} {H' : AHeap}, T.has a.i = false → True := fun _ => trivial
    repeat (first | refine w1 rfl rfl ?_ | refine w2 rfl ?_ | refine w3 rfl rfl ?_ | refine w4 ?_ | refine w5 ?_ | refine w6 ?_ | refine w7 ?_ | refine w8 rfl ?_ | refine w9 rfl ?_ | refine wa ?_ | refine wd ?_ | refine we ?_ | refine wb ?_ | refine wc ?_ | refine wf ?_ | refine wg ?_ | refine wh ?_ | refine wi rfl ?_ | refine wj ?_ | refine wk ?_ | refine wl ?_ | refine wm ?_ | refine wn ?_)
    refine s_index tk rfl rfl rfl rfl (by omega) hget rfl ?_
    repeat (first | refine w1 rfl rfl ?_ | refine w2 rfl ?_ | refine w3 rfl rfl ?_ | refine w4 ?_ | refine w5 ?_ | refine w6 ?_ | refine w7 ?_ | refine w8 rfl ?_ | refine w9 rfl ?_ | refine wa ?_ | refine wd ?_ | refine we ?_ | refine wb ?_ | refine wc ?_ | refine wf ?_ | refine wg ?_ | refine wh ?_ | refine wi rfl ?_ | refine wj ?_ | refine wk ?_ | refine wl ?_ | refine wm ?_ | refine wn ?_ | refine s_load tk rfl rfl (by assumption) rfl rfl ?_ | refine s_ept tk rfl rfl rfl rfl ?_)
    refine s_gsplit rfl rfl (fun e1 => ?_) (fun e1 => ?_)
    case refine_2 =>
      have hno : T.has a.i = false := by
        have e1 := of_decide_eq_false e1
        simp [Tab.has]; omega
      repeat (first | refine w1 rfl rfl ?_ | refine w2 rfl ?_ | refine w3 rfl rfl ?_ | refine w4 ?_ | refine w5 ?_ | refine w6 ?_ | refine w7 ?_ | refine w8 rfl ?_ | refine w9 rfl ?_ | refine wa ?_ | refine wd ?_ | refine we ?_ | refine wb ?_ | refine wc ?_ | refine wf ?_ | refine wg ?_ | refine wh ?_ | refine wi rfl ?_ | refine wj ?_ | refine wk ?_ | refine wl ?_ | refine wm ?_ | refine wn ?_ | refine s_load tk rfl rfl (by assumption) rfl rfl ?_ | refine s_ept tk rfl rfl rfl rfl ?_)
      refine s_index tk rfl rfl rfl rfl (by omega) hget rfl ?_
      repeat (first | refine w1 rfl rfl ?_ | refine w2 rfl ?_ | refine w3 rfl rfl ?_ | refine w4 ?_ | refine w5 ?_ | refine w6 ?_ | refine w7 ?_ | refine w8 rfl ?_ | refine w9 rfl ?_ | refine wa ?_ | refine wd ?_ | refine we ?_ | refine wb ?_ | refine wc ?_ | refine wf ?_ | refine wg ?_ | refine wh ?_ | refine wi rfl ?_ | refine wj ?_ | refine wk ?_ | refine wl ?_ | refine wm ?_ | refine wn ?_ | refine s_load tk rfl rfl (by assumption) rfl rfl ?_ | refine s_ept tk rfl rfl rfl rfl ?_)
      refine s_call rfl rfl fk17 ?_
      refine drop_c hw (hT _ _) ?_
      rw [hno]
      repeat (first | refine w1 rfl rfl ?_ | refine w2 rfl ?_ | refine w3 rfl rfl ?_ | refine w4 ?_ | refine w5 ?_ | refine w6 ?_ | refine w7 ?_ | refine w8 rfl ?_ | refine w9 rfl ?_ | refine wa ?_ | refine wd ?_ | refine we ?_ | refine wb ?_ | refine wc ?_ | refine wf ?_ | refine wg ?_ | refine wh ?_ | refine wi rfl ?_ | refine wj ?_ | refine wk ?_ | refine wl ?_ | refine wm ?_ | refine wn ?_)
      refine s_call rfl rfl fk18 ?_
      refine used_c hw (.inl (hT _ _)) ?_
      repeat (first | refine w1 rfl rfl ?_ | refine w2 rfl ?_ | refine w3 rfl rfl ?_ | refine w4 ?_ | refine w5 ?_ | refine w6 ?_ | refine w7 ?_ | refine w8 rfl ?_ | refine w9 rfl ?_ | refine wa ?_ | refine wd ?_ | refine we ?_ | refine wb ?_ | refine wc ?_ | refine wf ?_ | refine wg ?_ | refine wh ?_ | refine wi rfl ?_ | refine wj ?_ | refine wk ?_ | refine wl ?_ | refine wm ?_ | refine wn ?_)
      refine aw_cond rfl (fun e3 => ?_) (fun _ => ?_)
      · simp at e3
      repeat (first | refine w1 rfl rfl ?_ | refine w2 rfl ?_ | refine w3 rfl rfl ?_ | refine w4 ?_ | refine w5 ?_ | refine w6 ?_ | refine w7 ?_ | refine w8 rfl ?_ | refine w9 rfl ?_ | refine wa ?_ | refine wd ?_ | refine we ?_ | refine wb ?_ | refine wc ?_ | refine wf ?_ | refine wg ?_ | refine wh ?_ | refine wi rfl ?_ | refine wj ?_ | refine wk ?_ | refine wl ?_ | refine wm ?_ | refine wn ?_)
      refine s_add rfl rfl rfl (by omega) ?_
      repeat (first | refine w1 rfl rfl ?_ | refine w2 rfl ?_ | refine w3 rfl rfl ?_ | refine w4 ?_ | refine w5 ?_ | refine w6 ?_ | refine w7 ?_ | refine w8 rfl ?_ | refine w9 rfl ?_ | refine wa ?_ | refine wd ?_ | refine we ?_ | refine wb ?_ | refine wc ?_ | refine wf ?_ | refine wg ?_ | refine wh ?_ | refine wi rfl ?_ | refine wj ?_ | refine wk ?_ | refine wl ?_ | refine wm ?_ | refine wn ?_)
      exact hfin hw hTr hTU c' (hsix rfl rfl rfl rfl rfl rfl) (AHeap.sub_refl _)
    repeat (first | refine w1 rfl rfl ?_ | refine w2 rfl ?_ | refine w3 rfl rfl ?_ | refine w4 ?_ | refine w5 ?_ | refine w6 ?_ | refine w7 ?_ | refine w8 rfl ?_ | refine w9 rfl ?_ | refine wa ?_ | refine wd ?_ | refine we ?_ | refine wb ?_ | refine wc ?_ | refine wf ?_ | refine wg ?_ | refine wh ?_ | refine wi rfl ?_ | refine wj ?_ | refine wk ?_ | refine wl ?_ | refine wm ?_ | refine wn ?_ | refine s_load tk rfl rfl (by assumption) rfl rfl ?_ | refine s_ept tk rfl rfl rfl rfl ?_)
    refine s_index tk rfl rfl rfl rfl (by omega) hget rfl ?_
    repeat (first | refine w1 rfl rfl ?_ | refine w2 rfl ?_ | refine w3 rfl rfl ?_ | refine w4 ?_ | refine w5 ?_ | refine w6 ?_ | refine w7 ?_ | refine w8 rfl ?_ | refine w9 rfl ?_ | refine wa ?_ | refine wd ?_ | refine we ?_ | refine wb ?_ | refine wc ?_ | refine wf ?_ | refine wg ?_ | refine wh ?_ | refine wi rfl ?_ | refine wj ?_ | refine wk ?_ | refine wl ?_ | refine wm ?_ | refine wn ?_ | refine s_load tk rfl rfl (by assumption) rfl rfl ?_ | refine s_ept tk rfl rfl rfl rfl ?_)
    refine s_gsplit rfl rfl (fun e2 => ?_) (fun e2 => ?_)
    case refine_2 =>
      have hno : T.has a.i = false := by
        have e2 := of_decide_eq_false e2
        simp [Tab.has]; omega
      repeat (first | refine w1 rfl rfl ?_ | refine w2 rfl ?_ | refine w3 rfl rfl ?_ | refine w4 ?_ | refine w5 ?_ | refine w6 ?_ | refine w7 ?_ | refine w8 rfl ?_ | refine w9 rfl ?_ | refine wa ?_ | refine wd ?_ | refine we ?_ | refine wb ?_ | refine wc ?_ | refine wf ?_ | refine wg ?_ | refine wh ?_ | refine wi rfl ?_ | refine wj ?_ | refine wk ?_ | refine wl ?_ | refine wm ?_ | refine wn ?_ | refine s_load tk rfl rfl (by assumption) rfl rfl ?_ | refine s_ept tk rfl rfl rfl rfl ?_)
      refine s_index tk rfl rfl rfl rfl (by omega) hget rfl ?_
      repeat (first | refine w1 rfl rfl ?_ | refine w2 rfl ?_ | refine w3 rfl rfl ?_ | refine w4 ?_ | refine w5 ?_ | refine w6 ?_ | refine w7 ?_ | refine w8 rfl ?_ | refine w9 rfl ?_ | refine wa ?_ | refine wd ?_ | refine we ?_ | refine wb ?_ | refine wc ?_ | refine wf ?_ | refine wg ?_ | refine wh ?_ | refine wi rfl ?_ | refine wj ?_ | refine wk ?_ | refine wl ?_ | refine wm ?_ | refine wn ?_ | refine s_load tk rfl rfl (by assumption) rfl rfl ?_ | refine s_ept tk rfl rfl rfl rfl ?_)
      refine s_call rfl rfl fk17 ?_
      refine drop_c hw (hT _ _) ?_
      rw [hno]
      repeat (first | refine w1 rfl rfl ?_ | refine w2 rfl ?_ | refine w3 rfl rfl ?_ | refine w4 ?_ | refine w5 ?_ | refine w6 ?_ | refine w7 ?_ | refine w8 rfl ?_ | refine w9 rfl ?_ | refine wa ?_ | refine wd ?_ | refine we ?_ | refine wb ?_ | refine wc ?_ | refine wf ?_ | refine wg ?_ | refine wh ?_ | refine wi rfl ?_ | refine wj ?_ | refine wk ?_ | refine wl ?_ | refine wm ?_ | refine wn ?_)
      refine s_call rfl rfl fk18 ?_
      refine used_c hw (.inl (hT _ _)) ?_
      repeat (first | refine w1 rfl rfl ?_ | refine w2 rfl ?_ | refine w3 rfl rfl ?_ | refine w4 ?_ | refine w5 ?_ | refine w6 ?_ | refine w7 ?_ | refine w8 rfl ?_ | refine w9 rfl ?_ | refine wa ?_ | refine wd ?_ | refine we ?_ | refine wb ?_ | refine wc ?_ | refine wf ?_ | refine wg ?_ | refine wh ?_ | refine wi rfl ?_ | refine wj ?_ | refine wk ?_ | refine wl ?_ | refine wm ?_ | refine wn ?_)
      refine aw_cond rfl (fun e3 => ?_) (fun _ => ?_)
      · simp at e3
      repeat (first | refine w1 rfl rfl ?_ | refine w2 rfl ?_ | refine w3 rfl rfl ?_ | refine w4 ?_ | refine w5 ?_ | refine w6 ?_ | refine w7 ?_ | refine w8 rfl ?_ | refine w9 rfl ?_ | refine wa ?_ | refine wd ?_ | refine we ?_ | refine wb ?_ | refine wc ?_ | refine wf ?_ | refine wg ?_ | refine wh ?_ | refine wi rfl ?_ | refine wj ?_ | refine wk ?_ | refine wl ?_ | refine wm ?_ | refine wn ?_)
      refine s_add rfl rfl rfl (by omega) ?_
      repeat (first | refine w1 rfl rfl ?_ | refine w2 rfl ?_ | refine w3 rfl rfl ?_ | refine w4 ?_ | refine w5 ?_ | refine w6 ?_ | refine w7 ?_ | refine w8 rfl ?_ | refine w9 rfl ?_ | refine wa ?_ | refine wd ?_ | refine we ?_ | refine wb ?_ | refine wc ?_ | refine wf ?_ | refine wg ?_ | refine wh ?_ | refine wi rfl ?_ | refine wj ?_ | refine wk ?_ | refine wl ?_ | refine wm ?_ | refine wn ?_)
      exact hfin hw hTr hTU c' (hsix rfl rfl rfl rfl rfl rfl) (AHeap.sub_refl _)
    have e1 := of_decide_eq_true e1
    have e2 := of_decide_eq_true e2
    have hq : (if 1 > (if 24 < a.i then 24 else a.i) then 1 else (if 24 < a.i then 24 else a.i)) = a.i := by
      split <;> split at * <;> omega
    have hgI : U[a.i.toNat]? = some (T.has a.i) := by
      have h1 := hTU.2 (a.i - 1).toNat (by omega)
      rw [show (a.i - 1).toNat + 1 = a.i.toNat by omega, show (((a.i - 1).toNat : Nat) : Int) + 1 = a.i by omega] at h1
      exact h1
    repeat (first | refine w1 rfl rfl ?_ | refine w2 rfl ?_ | refine w3 rfl rfl ?_ | refine w4 ?_ | refine w5 ?_ | refine w6 ?_ | refine w7 ?_ | refine w8 rfl ?_ | refine w9 rfl ?_ | refine wa ?_ | refine wd ?_ | refine we ?_ | refine wb ?_ | refine wc ?_ | refine wf ?_ | refine wg ?_ | refine wh ?_ | refine wi rfl ?_ | refine wj ?_ | refine wk ?_ | refine wl ?_ | refine wm ?_ | refine wn ?_ | refine s_load tk rfl rfl (by assumption) rfl rfl ?_ | refine s_ept tk rfl rfl rfl rfl ?_)
    refine s_index tk rfl rfl rfl rfl (by omega) hget rfl ?_
    repeat (first | refine w1 rfl rfl ?_ | refine w2 rfl ?_ | refine w3 rfl rfl ?_ | refine w4 ?_ | refine w5 ?_ | refine w6 ?_ | refine w7 ?_ | refine w8 rfl ?_ | refine w9 rfl ?_ | refine wa ?_ | refine wd ?_ | refine we ?_ | refine wb ?_ | refine wc ?_ | refine wf ?_ | refine wg ?_ | refine wh ?_ | refine wi rfl ?_ | refine wj ?_ | refine wk ?_ | refine wl ?_ | refine wm ?_ | refine wn ?_ | refine s_load tk rfl rfl (by assumption) rfl rfl ?_ | refine s_ept tk rfl rfl rfl rfl ?_)
    refine s_indexr tk rfl rfl rfl rfl (by rw [hq]; omega) (by rw [hq]; omega) ?_
    repeat (first | refine w1 rfl rfl ?_ | refine w2 rfl ?_ | refine w3 rfl rfl ?_ | refine w4 ?_ | refine w5 ?_ | refine w6 ?_ | refine w7 ?_ | refine w8 rfl ?_ | refine w9 rfl ?_ | refine wa ?_ | refine wd ?_ | refine we ?_ | refine wb ?_ | refine wc ?_ | refine wf ?_ | refine wg ?_ | refine wh ?_ | refine wi rfl ?_ | refine wj ?_ | refine wk ?_ | refine wl ?_ | refine wm ?_ | refine wn ?_ | refine s_load tk rfl rfl (by assumption) rfl rfl ?_ | refine s_ept tk rfl rfl rfl rfl ?_)
    refine s_load tk rfl rfl (.inl (hB _ _)) rfl (v := .b (T.has a.i)) (by rw [hq, show 0 + a.i.toNat * 1 = a.i.toNat by omega]; exact encU_get hgI) ?_
    repeat (first | refine w1 rfl rfl ?_ | refine w2 rfl ?_ | refine w3 rfl rfl ?_ | refine w4 ?_ | refine w5 ?_ | refine w6 ?_ | refine w7 ?_ | refine w8 rfl ?_ | refine w9 rfl ?_ | refine wa ?_ | refine wd ?_ | refine we ?_ | refine wb ?_ | refine wc ?_ | refine wf ?_ | refine wg ?_ | refine wh ?_ | refine wi rfl ?_ | refine wj ?_ | refine wk ?_ | refine wl ?_ | refine wm ?_ | refine wn ?_ | refine s_load tk rfl rfl (by assumption) rfl rfl ?_ | refine s_ept tk rfl rfl rfl rfl ?_)
    refine s_index tk rfl rfl rfl rfl (by omega) hget rfl ?_
    repeat (first | refine w1 rfl rfl ?_ | refine w2 rfl ?_ | refine w3 rfl rfl ?_ | refine w4 ?_ | refine w5 ?_ | refine w6 ?_ | refine w7 ?_ | refine w8 rfl ?_ | refine w9 rfl ?_ | refine wa ?_ | refine wd ?_ | refine we ?_ | refine wb ?_ | refine wc ?_ | refine wf ?_ | refine wg ?_ | refine wh ?_ | refine wi rfl ?_ | refine wj ?_ | refine wk ?_ | refine wl ?_ | refine wm ?_ | refine wn ?_ | refine s_load tk rfl rfl (by assumption) rfl rfl ?_ | refine s_ept tk rfl rfl rfl rfl ?_)
    refine s_call rfl rfl fk17 ?_
    refine drop_c hw (hT _ _) ?_
    cases hI : T.has a.i with
    | false =>
      repeat (first | refine w1 rfl rfl ?_ | refine w2 rfl ?_ | refine w3 rfl rfl ?_ | refine w4 ?_ | refine w5 ?_ | refine w6 ?_ | refine w7 ?_ | refine w8 rfl ?_ | refine w9 rfl ?_ | refine wa ?_ | refine wd ?_ | refine we ?_ | refine wb ?_ | refine wc ?_ | refine wf ?_ | refine wg ?_ | refine wh ?_ | refine wi rfl ?_ | refine wj ?_ | refine wk ?_ | refine wl ?_ | refine wm ?_ | refine wn ?_)
      refine s_call rfl rfl fk18 ?_
      refine used_c hw (.inl (hT _ _)) ?_
      repeat (first | refine w1 rfl rfl ?_ | refine w2 rfl ?_ | refine w3 rfl rfl ?_ | refine w4 ?_ | refine w5 ?_ | refine w6 ?_ | refine w7 ?_ | refine w8 rfl ?_ | refine w9 rfl ?_ | refine wa ?_ | refine wd ?_ | refine we ?_ | refine wb ?_ | refine wc ?_ | refine wf ?_ | refine wg ?_ | refine wh ?_ | refine wi rfl ?_ | refine wj ?_ | refine wk ?_ | refine wl ?_ | refine wm ?_ | refine wn ?_)
      refine aw_cond rfl (fun e3 => ?_) (fun _ => ?_)
      · simp at e3
      repeat (first | refine w1 rfl rfl ?_ | refine w2 rfl ?_ | refine w3 rfl rfl ?_ | refine w4 ?_ | refine w5 ?_ | refine w6 ?_ | refine w7 ?_ | refine w8 rfl ?_ | refine w9 rfl ?_ | refine wa ?_ | refine wd ?_ | refine we ?_ | refine wb ?_ | refine wc ?_ | refine wf ?_ | refine wg ?_ | refine wh ?_ | refine wi rfl ?_ | refine wj ?_ | refine wk ?_ | refine wl ?_ | refine wm ?_ | refine wn ?_)
      refine s_add rfl rfl rfl (by omega) ?_
      repeat (first | refine w1 rfl rfl ?_ | refine w2 rfl ?_ | refine w3 rfl rfl ?_ | refine w4 ?_ | refine w5 ?_ | refine w6 ?_ | refine w7 ?_ | refine w8 rfl ?_ | refine w9 rfl ?_ | refine wa ?_ | refine wd ?_ | refine we ?_ | refine wb ?_ | refine wc ?_ | refine wf ?_ | refine wg ?_ | refine wh ?_ | refine wi rfl ?_ | refine wj ?_ | refine wk ?_ | refine wl ?_ | refine wm ?_ | refine wn ?_)
      exact hfin hw hTr hTU c' (hsix rfl rfl rfl rfl rfl rfl) (AHeap.sub_refl _)
    | true =>
      have hlt := has_lt hw hI
      rw [if_pos rfl, sT]
      repeat (first | refine w1 rfl rfl ?_ | refine w2 rfl ?_ | refine w3 rfl rfl ?_ | refine w4 ?_ | refine w5 ?_ | refine w6 ?_ | refine w7 ?_ | refine w8 rfl ?_ | refine w9 rfl ?_ | refine wa ?_ | refine wd ?_ | refine we ?_ | refine wb ?_ | refine wc ?_ | refine wf ?_ | refine wg ?_ | refine wh ?_ | refine wi rfl ?_ | refine wj ?_ | refine wk ?_ | refine wl ?_ | refine wm ?_ | refine wn ?_ | refine s_load tk rfl rfl (by assumption) rfl rfl ?_ | refine s_ept tk rfl rfl rfl rfl ?_)
      refine s_index tk rfl rfl rfl rfl (by omega) hget rfl ?_
      repeat (first | refine w1 rfl rfl ?_ | refine w2 rfl ?_ | refine w3 rfl rfl ?_ | refine w4 ?_ | refine w5 ?_ | refine w6 ?_ | refine w7 ?_ | refine w8 rfl ?_ | refine w9 rfl ?_ | refine wa ?_ | refine wd ?_ | refine we ?_ | refine wb ?_ | refine wc ?_ | refine wf ?_ | refine wg ?_ | refine wh ?_ | refine wi rfl ?_ | refine wj ?_ | refine wk ?_ | refine wl ?_ | refine wm ?_ | refine wn ?_ | refine s_load tk rfl rfl (by assumption) rfl rfl ?_ | refine s_ept tk rfl rfl rfl rfl ?_)
      refine s_indexr tk rfl rfl rfl rfl (by omega) (by omega) ?_
      repeat (first | refine w1 rfl rfl ?_ | refine w2 rfl ?_ | refine w3 rfl rfl ?_ | refine w4 ?_ | refine w5 ?_ | refine w6 ?_ | refine w7 ?_ | refine w8 rfl ?_ | refine w9 rfl ?_ | refine wa ?_ | refine wd ?_ | refine we ?_ | refine wb ?_ | refine wc ?_ | refine wf ?_ | refine wg ?_ | refine wh ?_ | refine wi rfl ?_ | refine wj ?_ | refine wk ?_ | refine wl ?_ | refine wm ?_ | refine wn ?_ | refine s_load tk rfl rfl (by assumption) rfl rfl ?_ | refine s_ept tk rfl rfl rfl rfl ?_)
      refine s_store tk rfl rfl (hB _ _) rfl (by rw [encU_len, hTU.1]; omega) rfl ?_
      rw [encU_set, sB]
      repeat (first | refine w1 rfl rfl ?_ | refine w2 rfl ?_ | refine w3 rfl rfl ?_ | refine w4 ?_ | refine w5 ?_ | refine w6 ?_ | refine w7 ?_ | refine w8 rfl ?_ | refine w9 rfl ?_ | refine wa ?_ | refine wd ?_ | refine we ?_ | refine wb ?_ | refine wc ?_ | refine wf ?_ | refine wg ?_ | refine wh ?_ | refine wi rfl ?_ | refine wj ?_ | refine wk ?_ | refine wl ?_ | refine wm ?_ | refine wn ?_ | refine s_load tk rfl rfl (by assumption) rfl rfl ?_ | refine s_ept tk rfl rfl rfl rfl ?_)
      refine s_sub rfl rfl rfl (show -9223372036854775808 ≤ T.used - 1 ∧ T.used - 1 ≤ 9223372036854775807 by unfold Tab.used; omega) ?_
      repeat (first | refine w1 rfl rfl ?_ | refine w2 rfl ?_ | refine w3 rfl rfl ?_ | refine w4 ?_ | refine w5 ?_ | refine w6 ?_ | refine w7 ?_ | refine w8 rfl ?_ | refine w9 rfl ?_ | refine wa ?_ | refine wd ?_ | refine we ?_ | refine wb ?_ | refine wc ?_ | refine wf ?_ | refine wg ?_ | refine wh ?_ | refine wi rfl ?_ | refine wj ?_ | refine wk ?_ | refine wl ?_ | refine wm ?_ | refine wn ?_ | refine s_load tk rfl rfl (by assumption) rfl rfl ?_ | refine s_ept tk rfl rfl rfl rfl ?_)
      have hm : (((a.i - 1).toNat : Nat) : Int) < T.room := by omega
      have hwf' := put_wf hw Node.zero_small (a.i - 1).toNat
      have htrk := track_put hw hTU hm Node.zero
      rw [show 0 + a.i.toNat * 1 = (a.i - 1).toNat + 1 by omega]
      have hup := used_put hw hm Node.zero
      rw [show (((a.i - 1).toNat : Nat) : Int) + 1 = a.i by omega, hI] at hup
      refine s_call rfl rfl fk18 ?_
      refine used_c hwf' (.inl (hT _ _)) ?_
      repeat (first | refine w1 rfl rfl ?_ | refine w2 rfl ?_ | refine w3 rfl rfl ?_ | refine w4 ?_ | refine w5 ?_ | refine w6 ?_ | refine w7 ?_ | refine w8 rfl ?_ | refine w9 rfl ?_ | refine wa ?_ | refine wd ?_ | refine we ?_ | refine wb ?_ | refine wc ?_ | refine wf ?_ | refine wg ?_ | refine wh ?_ | refine wi rfl ?_ | refine wj ?_ | refine wk ?_ | refine wl ?_ | refine wm ?_ | refine wn ?_)
      refine aw_cond rfl (fun e3 => ?_) (fun _ => ?_)
      · rw [hup] at e3
        simp [b2i, Node.zero] at e3
        omega
      repeat (first | refine w1 rfl rfl ?_ | refine w2 rfl ?_ | refine w3 rfl rfl ?_ | refine w4 ?_ | refine w5 ?_ | refine w6 ?_ | refine w7 ?_ | refine w8 rfl ?_ | refine w9 rfl ?_ | refine wa ?_ | refine wd ?_ | refine we ?_ | refine wb ?_ | refine wc ?_ | refine wf ?_ | refine wg ?_ | refine wh ?_ | refine wi rfl ?_ | refine wj ?_ | refine wk ?_ | refine wl ?_ | refine wm ?_ | refine wn ?_)
      refine s_add rfl rfl rfl (by omega) ?_
      repeat (first | refine w1 rfl rfl ?_ | refine w2 rfl ?_ | refine w3 rfl rfl ?_ | refine w4 ?_ | refine w5 ?_ | refine w6 ?_ | refine w7 ?_ | refine w8 rfl ?_ | refine w9 rfl ?_ | refine wa ?_ | refine wd ?_ | refine we ?_ | refine wb ?_ | refine wc ?_ | refine wf ?_ | refine wg ?_ | refine wh ?_ | refine wi rfl ?_ | refine wj ?_ | refine wk ?_ | refine wl ?_ | refine wm ?_ | refine wn ?_)
      refine hfin hwf' hTr htrk c' (hsix rfl rfl rfl rfl ?_ rfl) (AHeap.sub_refl _)
      rw [hup]; rfl
end Abs
end Go.Proofs.Ytnjdkhfdjkjocaa
