import Derived.Test.YtpifnlodilcgkaaIK
set_option linter.unusedVariables false
namespace Go.Proofs.Ytpifnlodilcgkaa
namespace Abs

/-! ### an append where blocks stay as they are -/
theorem app_same {Y : AHeap} {bs : List Nat} {o o' : Own} (h1 : ∀ b ∈ bs, tokB o ≠ some b) (h2 : ∀ b ∈ bs, tokB o' ≠ some b) : ∀ b, b ∈ bs → (((Y.prot bs).free o).own o') b = Y.prot bs b := fun b hb => free_own_get (h1 b hb) (h2 b hb)
theorem app_back {Y : AHeap} {bs : List Nat} {o o' : Own} (h1 : ∀ b ∈ bs, tokB o ≠ some b) (h2 : ∀ b ∈ bs, tokB o' ≠ some b) : (((Y.prot bs).free o).own o').back Y bs = (Y.free o).own o' := by
  funext x
  by_cases hx : x ∈ bs
  · rw [back_in hx, free_own_get (h1 x hx) (h2 x hx)]
  · rw [back_out hx]
    have hp : Y.prot bs x = Y x := prot_other hx
    cases o <;> cases o' <;> simp only [AHeap.free, AHeap.own, AHeap.put, AHeap.del] <;> (repeat' split) <;> first | rfl | exact hp
theorem apart_prot {Y : AHeap} {bs : List Nat} {o o' : Own} (h : Apart ((Y.prot bs).free o) o') : Apart (Y.free o) o' := by
  cases o' with
  | no => exact h
  | full => trivial
  | tok b e s =>
    have h' : ((Y.prot bs).free o) b = none := h
    show (Y.free o) b = none
    cases o with
    | no => exact prot_none_iff.1 h'
    | full => exact prot_none_iff.1 h'
    | tok c e2 s2 =>
      simp only [AHeap.free, AHeap.del] at h' ⊢
      split
      · rfl
      · rename_i q
        rw [if_neg q] at h'
        exact prot_none_iff.1 h'
theorem owned_prots {Y : AHeap} {bs : List Nat} {o : Own} (h : Owned Y o) (h1 : ∀ b ∈ bs, tokB o ≠ some b) : Owned (Y.prot bs) o := owned_get h fun b hb => prot_other (fun q => h1 b q hb)
end Abs
end Go.Proofs.Ytpifnlodilcgkaa

set_option linter.unusedVariables false
namespace Go.Proofs.Ytpifnlodilcgkaa
namespace Abs
set_option linter.unusedSimpArgs false
set_option maxRecDepth 10000
set_option maxHeartbeats 2000000
attribute [local irreducible] AOps AW AP ACalls thenQ inBlk noGoto

/-! ### the document's chapter 10: what is told of a table -/
theorem placeI_get10 {l : List Int} {i : Int} {k : Nat} (h : placeI l i = some k) : l[k]? = some i := by
  unfold placeI at h
  rw [List.findIdx?_eq_some_iff_getElem] at h
  obtain ⟨hk, h1, _⟩ := h
  rw [List.getElem?_eq_getElem hk]
  simpa using h1
theorem tellL_len10 {T : Tab} (hg : T.good) : ∀ (f k : Nat) (s : List Int × List Raw), (T.tellL f k s).2.length ≤ s.2.length + 20 * f
  | 0, k, s => Nat.le_refl _
  | f + 1, k, s => by
    rw [Tab.tellL]
    cases hd : s.1[k]? with
    | none => exact Nat.le_add_right _ _
    | some d =>
      have h1 := tellL_len10 hg f (k + 1) (T.tellN k s (T.at d).ents)
      rw [tellN_len] at h1
      have h2 := (at_few hg d).1
      show (T.tellL f (k + 1) (T.tellN k s (T.at d).ents)).2.length ≤ _
      omega
theorem tell_len10 {T : Tab} (hg : T.good) : T.tell.length ≤ 1000 := by
  unfold Tab.tell
  split
  · have := tellL_len10 hg 24 0 T.tell0
    have h1 : T.tell0.2.length = 1 := rfl
    omega
  · exact Nat.zero_le _
theorem rplace10_c {l : List Int} {o : Own} {n : Int} {H : AHeap} {K : AVal → AHeap → Prop} (hl : l.length ≤ 1000000) (h0 : placeI l n = none → K (.i (-1)) H) (h1 : ∀ k : Nat, placeI l n = some k → K (.i (k : Int)) H) : ACalls Try.prog 65 [.sl (encInts l) o, .i n] H K := by
  refine acalls_body Try.func65 rfl rfl rfl ?_
  have ll := ints_len l
  repeat first|(apply x1;apply r0;apply r0)|apply w4|apply w6|apply w7|apply wb|apply w5
  refine aw_loop (fun k : Nat => k ≤ l.length ∧ ∀ j (h : j < l.length), j < k → l[j] ≠ n) (fun k => [(0, .sl (encInts l) o), (1, .i n), (5, .i k)]) (fun _ => H) (fun k => l.length - k) 0 ⟨Nat.zero_le _, fun j _ h => absurd h (Nat.not_lt_zero _)⟩ (by repeat (first | exact Fr.sub_nil _ | refine Fr.sub_cons rfl ?_)) (AHeap.sub_refl _) ?_
  intro k ⟨hk, hall⟩
  repeat first|(apply x1;apply r0;apply r0)|apply w4|apply w6|apply w7|apply w5
  refine aw_cond rfl (fun c => ?_) (fun c => ?_)<;>first|replace c:=of_decide_eq_true c|replace c:=of_decide_eq_false c
  case refine_2 =>
    repeat first|(apply gO;first|(apply x1;apply r0;apply r0)|apply w4)|(apply gW;first|apply w6|apply w7|apply wd|apply wc)|apply w5|apply wf|apply wh
    refine rt1 rfl rfl (.refl _) (AHeap.sub_refl _) (h0 (placeI_none.2 fun hm => ?_))
    obtain ⟨j, hj, e⟩ := List.getElem_of_mem hm
    exact hall j hj (by omega) e
  have c' : k < l.length := by omega
  have hget : (encInts l)[(k : Int).toNat]? = some [.i l[k]] := by simp [encInts, c']
  repeat first|(apply x1;apply r0;apply r0)|apply w6|apply w7|apply wa|apply wb|apply w5
  refine s_index tk rfl rfl rfl rfl (by omega) hget rfl ?_
  repeat first|(apply x1;apply r0;apply r0)|(apply x3;apply r0)|apply w4|apply w5
  refine aw_cond rfl (fun d => ?_) (fun d => ?_)<;>first|replace d:=of_decide_eq_true d|replace d:=of_decide_eq_false d
  · repeat first|(apply gO;first|(apply x1;apply r0;apply r0)|apply w4)|(apply gW;first|apply w6|apply w7|apply wd)|apply w5|apply we|apply wj
    exact rt1 rfl rfl (.refl _) (AHeap.sub_refl _) (h1 k (placeI_some c' d hall))
  · repeat first|(apply x1;apply r0;apply r0)|apply w4|(apply x6;apply r0;omega)|apply w7|apply wa|apply w5|apply wg
    refine ⟨k + 1, ⟨c', fun j hj hjk => ?_⟩, by omega, (by repeat (first | exact Fr.sub_nil _ | refine Fr.sub_cons rfl ?_)), AHeap.sub_refl _⟩
    rcases Nat.lt_or_ge j k with h | h
    · exact hall j hj h
    · have : j = k := by omega
      subst this
      exact d
theorem rbare_c {n : Node} {H : AHeap} {K : AVal → AHeap → Prop} (hK : K (.agg (encM { n with ents := [] })) H) : ACalls Try.prog 64 [.agg (encM n)] H K := by
  refine acalls_body Try.func64 rfl rfl rfl ?_
  repeat first|apply w6|apply w7
  refine s_box rfl rfl rfl (fun b1 hb1 => ?_); have hb := hb1; (try simp only [put_none_iff, prot_none_iff] at hb); (repeat obtain ⟨_, _, hb⟩ := hb)
  skip
  refine s_alloc tk rfl rfl rfl (fun b2 hb2 => ?_); have hb := hb2; (try simp only [put_none_iff, prot_none_iff] at hb); (repeat obtain ⟨_, _, hb⟩ := hb)
  repeat first|(apply gO;first|(apply x1;apply r0;apply r0)|(apply x2;apply r0;(with_reducible repeat first|assumption|apply q0|apply ps|apply gp);apply r0)|(apply xst;apply r0;(with_reducible repeat first|assumption|apply q0|apply ps|apply gp);apply r0)|apply w4)|(apply gW;first|apply w6|apply w7|apply wd)|apply w5
  exact rt1c (H' := H) rfl rfl (by apply q0) rfl (by rfl) (by exact wk_agg rfl) (by repeat first|exact s0|(apply su1;assumption)) hK
theorem rtell_c {T : Tab} {L : List Node} (ht : Tells T L) {H : AHeap} {K : AVal → AHeap → Prop} (hK : K (.sl (encRs T.tell) .no) H) : ACalls Try.prog 32 [.agg (encT L)] H K := by
  refine acalls_body Try.func32 rfl rfl rfl ?_
  have hg := ht.good
  have hll : L.length ≤ 1000 := Nat.le_trans ht.rel.most (by decide)
  unfold Tab.tell at hK
  repeat first|apply w6|apply w7
  refine s_box rfl rfl rfl (fun b1 hb1 => ?_); have hb := hb1; (try simp only [put_none_iff, prot_none_iff] at hb); (repeat obtain ⟨_, _, hb⟩ := hb)
  repeat first|(apply x1;apply r0;apply r0)|(apply x2;apply r0;(apply q0);apply r0)|(apply x9;apply r0)|apply w4|apply w6|apply w7|apply w5
  refine rtright_c (op := []) ⟨hll, fun n hn => ?_⟩ (Nat.zero_le _) ?_
  · obtain ⟨j, hj, rfl⟩ := List.mem_iff_getElem.1 hn
    have h1 := ht.get ((j : Int) + 1)
    unfold rget at h1
    rw [if_pos (by omega), show ((j : Int) + 1 - 1).toNat = j by omega, List.getD_eq_getElem?_getD, List.getElem?_eq_getElem hj, Option.getD_some] at h1
    rw [h1]; exact (at_few hg _).small
  rw [l_right hg.wf hg.clean ht.rel]
  repeat first|(apply x1;apply r0;apply r0)|apply w4|apply w6|apply w7|apply w5
  refine aw_cond rfl (fun c => ?_) (fun c => ?_)
  · have c' : ¬ T.right [] = true := by simpa using c
    rw [if_neg c'] at hK
    repeat first|(apply x1;apply r0;apply r0)|apply w4|apply w6|apply w7|apply wd|apply w5|apply we
    exact rt1 (H' := H) rfl rfl (.sl _ _) (by repeat first|exact s0|(apply su1;assumption)) hK
  have c' : T.right [] = true := by simpa using c
  rw [if_pos c'] at hK
  have htr := (right_iff hg).1 c'
  generalize hX : AHeap.put H b1 _ = X
  have x1' : X b1 = some (.cells (encT L)) := by rw [← hX]; exact (by apply get_eq;(focus apply ps);rfl)
  have xs' : H.sub X := by rw [← hX]; exact (by repeat first|exact s0|(apply su1;assumption))
  clear hX
  repeat first|(apply gO;first|(apply x1;apply r0;apply r0)|(apply x2;apply r0;(with_reducible repeat exact q1 ‹_›);apply r0)|(apply xbs;apply r0)|(apply x9;apply r0)|apply w4)|(apply gW;first|apply w6|apply w7|apply wa)|apply w5
  refine rget_c ht.len ?_
  rw [ht.get]
  repeat (apply x9;apply r0)
  refine rbare_c ?_
  repeat first|(apply gO;first|(apply x1;apply r0;apply r0)|apply w4)|(apply gW;first|apply w6|apply w7)|apply w5
  refine xbd (v := .agg (encR (T.rawOf 1 0 ⟨#[]⟩))) rfl ?_
  refine xbs (v := .sl [encR (T.rawOf 1 0 ⟨#[]⟩)] .full) rfl ?_
  refine s_append (xs := []) (o := .full) tk rfl rfl rfl rfl rfl (fun x hx => by cases hx) (rs_uni1 _) rfl trivial trivial (by simp only [List.length_cons, List.length_nil]; omega) (fun p1 ha he1 => ?_)
  have hm := (Own2.full X).step ha
  generalize ((_ : AHeap).free _).own p1 = Y at hm ⊢
  rw [List.nil_append]
  repeat first|(apply x1;apply r0;apply r0)|apply w4|apply w6|apply w7|apply wb|apply w5
  refine aw_loop (fun s : Nat × (List Int × List Raw) × Own × Own × AHeap => s.1 ≤ 24 ∧ TI T s.2.1 ∧ s.2.1.2.length ≤ 1 + 20 * s.1 ∧ T.tellL (24 - s.1) s.1 s.2.1 = T.tellL 24 0 T.tell0 ∧ Own2 X s.2.2.2.2 s.2.2.1 s.2.2.2.1 ∧ ownEs 11 s.2.2.1 ∧ ownEs 1 s.2.2.2.1)
    (fun s => [(1, .ptr b1 0), (3, .sl (encRs s.2.1.2) s.2.2.1), (5, .sl (encInts s.2.1.1) s.2.2.2.1), (6, .i s.1)])
    (fun s => s.2.2.2.2) (fun s => 24 - s.1) (0, T.tell0, p1, .full, Y) ⟨Nat.zero_le _, TI.first htr, Nat.le_refl _, rfl, hm, he1, trivial⟩ (by repeat (first | exact Fr.sub_nil _ | refine Fr.sub_cons rfl ?_)) (AHeap.sub_refl _) ?_
  clear hm he1 ha
  rintro ⟨k, s, o1, o2, Y⟩ ⟨hk, hti, hlen, hfin, hm, he1, he2⟩
  dsimp only at hk hti hlen hfin hm he1 he2 ⊢
  have hle := hti.le hg
  have lo := ints_len s.1
  repeat first|(apply x1;apply r0;apply r0)|apply w4|apply w6|apply w7|apply w5
  refine aw_cond rfl (fun d => ?_) (fun d => ?_)<;>first|replace d:=of_decide_eq_true d|replace d:=of_decide_eq_false d
  case refine_2 =>
    have hd : s.1.length ≤ k := by omega
    rw [tellL_end hd] at hfin
    rw [← hfin] at hK
    repeat first|(apply gO;first|(apply x1;apply r0;apply r0)|apply w4)|(apply gW;first|apply w6|apply w7|apply wd|apply wc)|apply w5|apply wf|apply wh
    exact rt1 (H' := H) rfl rfl (.sl _ _) (AHeap.sub_trans xs' hm.sub) hK
  have d' : k < s.1.length := by omega
  have hget : (encInts s.1)[(k : Int).toNat]? = some [.i s.1[k]] := by simp [encInts, d']
  have yb1 := hm.get x1'
  have hent := fun e (he : e ∈ (T.at s.1[k]).ents) => htr.ents s.1[k] e.node ⟨e, he, rfl⟩
  have hfew := at_few hg s.1[k]
  have hstep := tellL_step (T := T) (f := 24 - (k + 1)) d'
  rw [show 24 - (k + 1) + 1 = 24 - k by omega, hfin] at hstep
  generalize s.1[k] = dd at hget hent hfew hstep
  apply wa; apply w5; apply w6; apply wb; apply w6
  refine aw_cutS (fun F' H' => ∃ b7, Y b7 = none ∧ Fr.sub [(1, .ptr b1 0), (3, .sl (encRs s.2) o1), (5, .sl (encInts s.1) o2), (6, .i k), (7, .ptr b7 0)] F' ∧ (Y.put b7 (.cells (encM (T.at dd)))).sub H') ?_ ?_
  · refine aw_prot [b1] (allc (by with_reducible repeat exact q1 ‹_›) (allc0 _)) ?_
    refine aw_plan mixed (.take 0 (.take 1 (.take 2 (.take 3 (.take 4 (.two 5 6 (.one 6 (.one 7 .done)) (.one 5 (.one 7 .done)))))))) (by kernel_rfl) ?_
    repeat first|(apply y1;apply r0;apply r0)|(apply y2;apply r0;apply r0;(with_reducible repeat first|exact q1 ‹_›|apply pg|exact mm0);apply r0)
    refine d_index rfl rfl rfl rfl rfl rfl (by omega) hget rfl ?_
    repeat (apply y3;apply r0;apply r0)
    refine e_two rfl rfl ?_ ?_
    · repeat (apply x9;apply r0)
      refine rget_c ht.len ?_
      rw [ht.get]
      repeat first|apply w4|(apply y4;apply r0)
      refine s_alloc tk rfl rfl rfl (fun b7 hb7 => ?_); have hb := hb7; (try simp only [put_none_iff, prot_none_iff] at hb); (repeat obtain ⟨_, _, hb⟩ := hb)
      repeat first|(apply xst;apply r0;(apply ps);apply r0)|apply w4|apply y0|(apply y4;apply r0)
      (try simp only [put_put])
      refine prot_done_put (by simp only [List.mem_cons,List.not_mem_nil,or_false,not_or]; first|exact (by first|assumption|exact n1 ‹_› ‹_›|exact n2 ‹_› ‹_›|exact n3 ‹_› ‹_›|exact n4 ‹_› ‹_›)|exact ⟨(by first|assumption|exact n1 ‹_› ‹_›|exact n2 ‹_› ‹_›|exact n3 ‹_› ‹_›|exact n4 ‹_› ‹_›),(by first|assumption|exact n1 ‹_› ‹_›|exact n2 ‹_› ‹_›|exact n3 ‹_› ‹_›|exact n4 ‹_› ‹_›)⟩|exact ⟨(by first|assumption|exact n1 ‹_› ‹_›|exact n2 ‹_› ‹_›|exact n3 ‹_› ‹_›|exact n4 ‹_› ‹_›),(by first|assumption|exact n1 ‹_› ‹_›|exact n2 ‹_› ‹_›|exact n3 ‹_› ‹_›|exact n4 ‹_› ‹_›),(by first|assumption|exact n1 ‹_› ‹_›|exact n2 ‹_› ‹_›|exact n3 ‹_› ‹_›|exact n4 ‹_› ‹_›)⟩) ?_
      repeat apply w5
      exact ⟨b7, hb, (by repeat (first | exact Fr.sub_nil _ | refine Fr.sub_cons rfl ?_)), AHeap.sub_refl _⟩
    · skip
      refine s_alloc tk rfl rfl rfl (fun b7 hb7 => ?_); have hb := hb7; (try simp only [put_none_iff, prot_none_iff] at hb); (repeat obtain ⟨_, _, hb⟩ := hb)
      repeat first|(apply x9;apply r0)|apply w4|(apply y4;apply r0)
      refine rget_c ht.len ?_
      rw [ht.get]
      repeat first|(apply xst;apply r0;(apply ps);apply r0)|apply w4|apply y0|(apply y4;apply r0)
      (try simp only [put_put])
      refine prot_done_put (by simp only [List.mem_cons,List.not_mem_nil,or_false,not_or]; first|exact (by first|assumption|exact n1 ‹_› ‹_›|exact n2 ‹_› ‹_›|exact n3 ‹_› ‹_›|exact n4 ‹_› ‹_›)|exact ⟨(by first|assumption|exact n1 ‹_› ‹_›|exact n2 ‹_› ‹_›|exact n3 ‹_› ‹_›|exact n4 ‹_› ‹_›),(by first|assumption|exact n1 ‹_› ‹_›|exact n2 ‹_› ‹_›|exact n3 ‹_› ‹_›|exact n4 ‹_› ‹_›)⟩|exact ⟨(by first|assumption|exact n1 ‹_› ‹_›|exact n2 ‹_› ‹_›|exact n3 ‹_› ‹_›|exact n4 ‹_› ‹_›),(by first|assumption|exact n1 ‹_› ‹_›|exact n2 ‹_› ‹_›|exact n3 ‹_› ‹_›|exact n4 ‹_› ‹_›),(by first|assumption|exact n1 ‹_› ‹_›|exact n2 ‹_› ‹_›|exact n3 ‹_› ‹_›|exact n4 ‹_› ‹_›)⟩) ?_
      repeat apply w5
      exact ⟨b7, hb, (by repeat (first | exact Fr.sub_nil _ | refine Fr.sub_cons rfl ?_)), AHeap.sub_refl _⟩
  have hm0 := hm
  rintro F' H' ⟨b7, hb7, hF, hH⟩
  refine AW_sub ?_ hF hH
  clear hF hH
  have xb7 : X b7 = none := by
    cases hX : X b7 with
    | none => rfl
    | some p => have := hm0.get hX; rw [hb7] at this; cases this
  have hk0 : ∀ {q : Own}, Owned Y q → tokB q ≠ some b7 := fun hq e => by exact owned_some hq e hb7
  replace hm : Own2 (X.put b7 (.cells (encM (T.at dd)))) (Y.put b7 (.cells (encM (T.at dd)))) o1 o2 := ⟨owned_get hm.own1 (fun x hx => put_ne (fun e => hk0 hm.own1 (by rw [hx, e]))), owned_get hm.own2 (fun x hx => put_ne (fun e => hk0 hm.own2 (by rw [hx, e]))), hm.ne, fun x hx => by
    by_cases e : x = b7
    · subst e
      exact ⟨by rw [put_same, put_same], hk0 hm.own1, hk0 hm.own2⟩
    · rw [put_ne e] at hx
      rw [put_ne e, put_ne e]
      exact hm.old x hx⟩
  have hless : ∀ x, X x ≠ none → (X.put b7 (.cells (encM (T.at dd)))) x = X x := fun x hx => put_ne (fun e => hx (e ▸ xb7))
  have xb12 : (X.put b7 (.cells (encM (T.at dd)))) b1 = some (.cells (encT L)) := (hless b1 (by rw [x1']; simp)).trans x1'
  have x72 : (X.put b7 (.cells (encM (T.at dd)))) b7 = some (.cells (encM (T.at dd))) := put_same _ _ _
  generalize X.put b7 _ = X' at hm hless xb12 x72
  generalize Y.put b7 _ = Z at hm ⊢
  have ln := names_len (T.at dd).ents
  have hents := hfew.1
  repeat first|(apply x1;apply r0;apply r0)|apply w4|apply w6|apply w7|apply wb|apply w5
  refine aw_loop (fun z : Nat × Own × Own × AHeap => z.1 ≤ (T.at dd).ents.length ∧ Own2 X' z.2.2.2 z.2.1 z.2.2.1 ∧ ownEs 11 z.2.1 ∧ ownEs 1 z.2.2.1)
    (fun z => [(1, .ptr b1 0), (3, .sl (encRs (T.tellN k s ((T.at dd).ents.take z.1)).2) z.2.1), (5, .sl (encInts (T.tellN k s ((T.at dd).ents.take z.1)).1) z.2.2.1), (6, .i k), (7, .ptr b7 0), (8, .i z.1)])
    (fun z => z.2.2.2) (fun z => (T.at dd).ents.length - z.1) (0, o1, o2, Z) ⟨Nat.zero_le _, hm, he1, he2⟩ (by repeat (first | exact Fr.sub_nil _ | refine Fr.sub_cons rfl ?_)) (AHeap.sub_refl _) ?_
  clear hm he1 he2
  rintro ⟨j, r1', r2', W⟩ ⟨hj, hm, he1, he2⟩
  dsimp only at hj hm he1 he2 ⊢
  have htj := TI.fold (T := T) k (l := (T.at dd).ents.take j) hti (fun e he => hent e (List.mem_of_mem_take he))
  have hlj := htj.le hg
  have hoj := tellN_len (T := T) k (l := (T.at dd).ents.take j) (s := s)
  rw [List.length_take] at hoj
  have y7' := hm.get x72
  have y1' := hm.get xb12
  repeat first|(apply x1;apply r0;apply r0)|(apply x2;apply r0;(with_reducible repeat exact q1 ‹_›);apply r0)|apply w4|apply w6|apply w7|apply w5
  refine aw_cond rfl (fun f => ?_) (fun f => ?_)<;>first|replace f:=of_decide_eq_true f|replace f:=of_decide_eq_false f
  case refine_2 =>
    have hje : j = (T.at dd).ents.length := by omega
    subst hje
    rw [List.take_length] at htj hlj hoj
    rw [List.take_length]
    repeat first|(apply gO;first|(apply x1;apply r0;apply r0)|apply w4|(apply x6;apply r0;omega))|(apply gW;first|apply w7|apply wc)|apply w5|apply wg|apply wf|apply wh
    have hm2 : Own2 X W r1' r2' := ⟨hm.own1, hm.own2, hm.ne, fun x hx => by
      have h9 := hless x hx
      have := hm.old x (by rw [h9]; exact hx)
      rw [h9] at this; exact this⟩
    refine ⟨(k + 1, T.tellN k s (T.at dd).ents, r1', r2', W), ⟨by omega, htj, ?_, hstep.symm, hm2, he1, he2⟩, by dsimp only; omega, (by repeat (first | exact Fr.sub_nil _ | refine Fr.sub_cons rfl ?_)), AHeap.sub_refl _⟩
    dsimp only
    omega
  have f' : j < (T.at dd).ents.length := by omega
  have hgn := names_get (T.at dd).ents j f'
  have hgk := kids_get (T.at dd).ents j f'
  have htake := tellN_take (T := T) (k := k) (s := s) f'
  generalize T.tellN k s ((T.at dd).ents.take j) = S at hm htj hlj hoj htake ⊢
  obtain ⟨ord, out⟩ := S
  dsimp only at hm htj hlj hoj htake ⊢
  have lo2 := ints_len ord
  have ll2 := rs_len out
  generalize (T.at dd).ents[j] = e at htake hgn hgk
  repeat first|(apply x1;apply r0;apply r0)|(apply x2;apply r0;(with_reducible repeat exact q1 ‹_›);apply r0)|apply w6|apply w7|apply wa|apply wb|apply w5
  refine s_index tk rfl rfl rfl rfl (by omega) hgk rfl ?_
  repeat first|(apply x3;apply r0)|(apply x9;apply r0)
  refine rplace10_c (l := ord) (by omega) (fun h0 => ?_) (fun p hp => ?_)
  · have hT1 : T.tellE k (ord, out) e = (ord ++ [e.node], out ++ [T.rawOf e.node ((k : Int) + 1) e.name]) := by unfold Tab.tellE; rw [h0]
    rw [hT1] at htake
    repeat first|(apply gO;first|(apply x1;apply r0;apply r0)|(apply x2;apply r0;(with_reducible repeat exact q1 ‹_›);apply r0)|apply w4)|(apply gW;first|apply w6|apply w7|(apply w9;apply r0)|apply wa)|apply w5
    refine s_index tk rfl rfl rfl rfl (by omega) hgk rfl ?_
    repeat first|(apply x3;apply r0)|(apply xbs;apply r0)
    refine s_append tk rfl rfl rfl rfl rfl (ints_uni10 _) (uni_one1 (.i e.node)) rfl hm.own2 he2 (by rw [lo2]; simp only [List.length_cons, List.length_nil]; omega) (fun p2 ha he2' => ?_)
    replace hm := (hm.swap.step ha).swap
    clear y7' y1' ha
    generalize ((_ : AHeap).free _).own p2 = V at hm ⊢
    rw [show encInts ord ++ [[.i e.node]] = encInts (ord ++ [e.node]) by simp [encInts]]
    have y7' := hm.get x72
    have y1' := hm.get xb12
    repeat first|(apply x1;apply r0;apply r0)|apply w4|apply w5
    have hbs : ∀ b ∈ [b1, b7], tokB r1' ≠ some b := fun b hb => by
      rcases List.mem_cons.1 hb with rfl | hb
      · exact (hm.old _ (by rw [xb12]; simp)).2.1
      · rw [List.mem_singleton.1 hb]; exact (hm.old _ (by rw [x72]; simp)).2.1
    refine aw_prot [b1, b7] (allc (by with_reducible repeat exact q1 ‹_›) (allc (by with_reducible repeat exact q1 ‹_›) (allc0 _))) ?_
    refine aw_plan mixed (.take 0 (.take 1 (.take 2 (.take 3 (.take 4 (.take 5 (.take 6 (.take 9 (.take 10 (.take 11 (.take 12 (.take 13 (.take 14 (.take 15 (.one 7 (.one 8 (.one 16 (.one 17 (.one 18 (.take 19 .done)))))))))))))))))))) (by kernel_rfl) ?_
    repeat first|(apply y1;apply r0;apply r0)|(apply y2;apply r0;apply r0;(with_reducible repeat first|exact q1 ‹_›|apply pg|exact mm0|apply mm1);apply r0)
    refine d_index rfl rfl rfl rfl rfl rfl (by omega) hgk rfl ?_
    repeat first|(apply y1;apply r0;apply r0)|(apply y2;apply r0;apply r0;(with_reducible repeat first|exact q1 ‹_›|apply pg|exact mm0|apply mm1);apply r0)|(apply y3;apply r0;apply r0)|(apply y6;apply r0;apply r0;omega)
    refine d_index rfl rfl rfl rfl rfl rfl (by omega) hgn rfl ?_
    repeat first|(apply x9;apply r0)|(apply y4;apply r0)|(apply y3;apply r0;apply r0)
    refine rget_c ht.len ?_
    rw [ht.get]
    repeat first|(apply x9;apply r0)|apply w4|(apply y4;apply r0)
    refine rbare_c ?_
    apply w4
    refine e4 rfl ?_
    refine xbd (v := .agg (encR (T.rawOf e.node ((k : Int) + 1) e.name))) rfl ?_
    apply w4
    refine e4 rfl ?_
    refine xbs (v := .sl [encR (T.rawOf e.node ((k : Int) + 1) e.name)] .full) rfl ?_
    apply w4
    refine e4 rfl ?_
    refine s_append tk rfl rfl rfl rfl rfl (rs_uni _) (rs_uni1 _) rfl (owned_prots hm.own1 hbs) he1 (by rw [ll2]; simp only [List.length_cons, List.length_nil]; omega) (fun p1 ha1 he1' => ?_)
    have ha2 := apart_prot ha1
    have hbs2 : ∀ b ∈ [b1, b7], tokB p1 ≠ some b := fun b hb => by
      rcases List.mem_cons.1 hb with rfl | hb
      · exact apart_ne ha2 y1' (hbs _ List.mem_cons_self)
      · have := List.mem_singleton.1 hb
        subst this
        exact apart_ne ha2 y7' (hbs _ (List.mem_cons_of_mem _ List.mem_cons_self))
    have hm2 := hm.step ha2
    rw [rs_app]
    repeat first|apply w4|(apply y1;apply r0;apply r0)|apply y0
    refine ⟨app_same hbs hbs2, ?_⟩
    rw [app_back hbs hbs2]
    generalize ((_ : AHeap).free _).own p1 = V2 at hm2 ⊢
    repeat first|(apply x1;apply r0;apply r0)|apply w4|(apply x6;apply r0;omega)|apply w7|apply w5|apply wg
    refine ⟨(j + 1, p1, p2, V2), ⟨f', hm2, he1', he2'⟩, by dsimp only; omega, ?_, AHeap.sub_refl _⟩
    dsimp only; rw [htake]; exact (by repeat (first | exact Fr.sub_nil _ | refine Fr.sub_cons rfl ?_))
  · have hT1 : T.tellE k (ord, out) e = (ord, out ++ [againR ((k : Int) + 1) e.name ((p : Int) + 1)]) := by unfold Tab.tellE; rw [hp]
    rw [hT1] at htake
    have hpl := (List.getElem?_eq_some_iff.1 (placeI_get10 hp)).1
    repeat first|(apply gO;first|(apply x1;apply r0;apply r0)|apply w4)|(apply gW;first|apply w6|apply w7)|apply w5
    apply w8; apply r0
    repeat first|(apply gO;first|(apply x1;apply r0;apply r0)|apply w4)|(apply gW;first|apply w6|apply w7)|apply w5
    refine xbd (v := .agg [.i 4, .i 0, .i 0, .i 0, .s ⟨#[]⟩, .sl [] .full, .sl [] .full, .s ⟨#[]⟩]) rfl ?_
    repeat first|(apply gO;first|(apply x1;apply r0;apply r0)|apply w4)|(apply gW;first|apply w6|apply w7)|apply w5
    refine s_add rfl rfl rfl (by omega) ?_
    repeat first|(apply gO;first|(apply x1;apply r0;apply r0)|apply w4)|(apply gW;first|apply w6|apply w7)|apply w5
    refine x2 rfl (by with_reducible repeat exact q1 ‹_›) rfl ?_
    repeat first|(apply gO;first|(apply x1;apply r0;apply r0)|apply w4)|(apply gW;first|apply w6|apply w7)|apply w5
    refine s_index tk rfl rfl rfl rfl (by omega) hgn rfl ?_
    refine s_ept tk rfl rfl rfl rfl ?_
    repeat first|(apply gO;first|(apply x1;apply r0;apply r0)|apply w4)|(apply gW;first|apply w6|apply w7)|apply w5
    refine s_add rfl rfl rfl (by omega) ?_
    refine xbd (v := .agg [.i 4, .i 0, .i 0, .i 0, .s ⟨#[]⟩, .sl [] .full, .sl [] .full, .s ⟨#[]⟩, .i ((k : Int) + 1), .s e.name, .i ((p : Int) + 1)]) rfl ?_
    refine xbs (v := .sl [[.i 4, .i 0, .i 0, .i 0, .s ⟨#[]⟩, .sl [] .full, .sl [] .full, .s ⟨#[]⟩, .i ((k : Int) + 1), .s e.name, .i ((p : Int) + 1)]] .full) rfl ?_
    refine aops_wkf (d := 63) (u := .sl [encR (againR ((k : Int) + 1) e.name ((p : Int) + 1))] .no) rfl (wk_rows rfl) ?_
    refine s_append tk rfl rfl rfl rfl rfl (rs_uni _) (rs_uni1 _) rfl hm.own1 he1 (by rw [ll2]; simp only [List.length_cons, List.length_nil]; omega) (fun p1 ha1 he1' => ?_)
    have hm2 := hm.step ha1
    rw [rs_app]
    generalize ((_ : AHeap).free _).own p1 = V2 at hm2 ⊢
    repeat first|(apply gO;first|(apply x1;apply r0;apply r0)|apply w4|(apply x6;apply r0;omega))|(apply gW;first|apply w7|apply wc)|apply w5|apply wf|apply wh
    refine ⟨(j + 1, p1, r2', V2), ⟨f', hm2, he1', he2⟩, by dsimp only; omega, ?_, AHeap.sub_refl _⟩
    dsimp only; rw [htake]; exact (by repeat (first | exact Fr.sub_nil _ | refine Fr.sub_cons rfl ?_))
end Abs
end Go.Proofs.Ytpifnlodilcgkaa
