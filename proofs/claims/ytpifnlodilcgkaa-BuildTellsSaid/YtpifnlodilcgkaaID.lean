import Derived.Test.YtpifnlodilcgkaaIC
import Derived.Test.YtpifnlodilcgkaaIB
import Derived.Test.YtpifnlodilcgkaaV4
import Derived.Test.YtpifnlodilcgkaaXA
set_option linter.unusedVariables false
namespace Go.Proofs.Ytpifnlodilcgkaa
namespace Abs

/-! ### a slice in a cell that grows, and another one beside it -/
theorem aops_wkf {P : Program} {n : Nat} {ops : Array Oper} {l : List Oper} {F : Fr} {H : AHeap} {K : APost} {d : Nat} {v u : AVal} (hd : F.get d = some v) (hw : Wk v u) (h : AOps P n ops l ((d, u) :: F) H K) : AOps P n ops l F H K := fun g a w Q hi hf hk => by
  refine h g a w Q hi ⟨hf.size, hf.defers, fun t x ht => ?_⟩ hk
  simp only [Fr.get] at ht
  cases hx : Nat.beq d t with
  | true =>
    rw [hx] at ht
    cases ht
    obtain ⟨cv, h1, h2⟩ := hf.slot d _ hd
    rw [← Nat.eq_of_beq_eq_true hx]
    exact ⟨cv, h1, h2.wk hw⟩
  | false => rw [hx] at ht; exact hf.slot t x ht
structure TlSt (X Y : AHeap) (b : Nat) (rows : List (List AVal)) (o1 o2 : Own) : Prop where
  st : Own2 X Y o1 o2
  cell : Y b = some (.cells [.sl rows o1])
  ne1 : tokB o1 ≠ some b
  ne2 : tokB o2 ≠ some b
  new : X b = none
theorem TlSt.first {X : AHeap} {b : Nat} (h : X b = none) : TlSt X (X.put b (.cells [.sl [] .full])) b [] .full .full :=
  ⟨⟨trivial, trivial, (by intro b e; cases e), fun x hx => ⟨put_ne (fun e => hx (by rw [e]; exact h)), (by intro e; cases e), (by intro e; cases e)⟩⟩, put_same _ _ _, (by intro e; cases e), (by intro e; cases e), h⟩
theorem TlSt.get {X Y : AHeap} {b : Nat} {rows : List (List AVal)} {o1 o2 : Own} (h : TlSt X Y b rows o1 o2) {x : Nat} {p : HObj} (hx : X x = some p) : Y x = some p := h.st.get hx
theorem TlSt.rd {X Y : AHeap} {b : Nat} {rows : List (List AVal)} {o1 o2 : Own} (h : TlSt X Y b rows o1 o2) {x : Nat} {cs : List AVal} (hx : Rd X x cs) : Rd Y x cs := hx.elim (fun e => .inl (h.get e)) (fun e => .inr (h.get e))
theorem TlSt.less {X X' Y : AHeap} {b : Nat} {rows : List (List AVal)} {o1 o2 : Own} (h : TlSt X' Y b rows o1 o2) (hs : ∀ x, X x ≠ none → X' x = X x) : TlSt X Y b rows o1 o2 :=
  ⟨⟨h.st.own1, h.st.own2, h.st.ne, fun x hx => by have := h.st.old x (by rw [hs x hx]; exact hx); rw [hs x hx] at this; exact this⟩, h.cell, h.ne1, h.ne2, by
    cases hX : X b with
    | none => rfl
    | some p => have := hs b (by rw [hX]; simp); rw [h.new, hX] at this; cases this⟩
theorem TlSt.put {X Y : AHeap} {b : Nat} {rows : List (List AVal)} {o1 o2 : Own} (h : TlSt X Y b rows o1 o2) {c : Nat} (hc : Y c = none) (o : HObj) : TlSt (X.put c o) (Y.put c o) b rows o1 o2 := by
  have hcb : b ≠ c := fun e => by have := h.cell; rw [e, hc] at this; cases this
  have hXc : X c = none := by
    cases hX : X c with
    | none => rfl
    | some p => have := h.get hX; rw [hc] at this; cases this
  have hk : ∀ {q : Own}, Owned Y q → tokB q ≠ some c := fun hq e => by exact owned_some hq e hc
  refine ⟨⟨owned_get h.st.own1 (fun x hx => put_ne (fun e => hk h.st.own1 (by rw [hx, e]))), owned_get h.st.own2 (fun x hx => put_ne (fun e => hk h.st.own2 (by rw [hx, e]))), h.st.ne, fun x hx => ?_⟩, by rw [put_ne hcb]; exact h.cell, h.ne1, h.ne2, by rw [put_ne hcb]; exact h.new⟩
  by_cases e : x = c
  · subst e
    exact ⟨by rw [put_same, put_same], hk h.st.own1, hk h.st.own2⟩
  · rw [put_ne e] at hx
    rw [put_ne e, put_ne e]
    exact h.st.old x hx
theorem TlSt.put' {X Y : AHeap} {b : Nat} {rows : List (List AVal)} {o1 o2 : Own} (h : TlSt X Y b rows o1 o2) {c : Nat} (hc : Y c = none) (o : HObj) : TlSt X (Y.put c o) b rows o1 o2 := (h.put hc o).less fun x hx => by
  refine put_ne (fun e => hx ?_)
  subst e
  cases hX : X x with
  | none => rfl
  | some p => have := h.get hX; rw [hc] at this; cases this
theorem TlSt.order {X Y : AHeap} {b : Nat} {rows : List (List AVal)} {o1 o2 o' : Own} (h : TlSt X Y b rows o1 o2) (ha : Apart (Y.free o2) o') : TlSt X ((Y.free o2).own o') b rows o1 o' := by
  have h3 := apart_ne ha h.cell h.ne2
  exact ⟨(h.st.swap.step ha).swap, by rw [free_own_get h.ne2 h3]; exact h.cell, h.ne1, h3, h.new⟩
theorem TlSt.outCell {X Y : AHeap} {b : Nat} {rows : List (List AVal)} {o1 o2 o' : Own} (h : TlSt X Y b rows o1 o2) (ha : Apart (Y.free o1) o') : ((Y.free o1).own o') b = some (.cells [.sl rows o1]) := by
  rw [free_own_get h.ne1 (apart_ne ha h.cell h.ne1)]; exact h.cell
theorem TlSt.out {X Y : AHeap} {b : Nat} {rows : List (List AVal)} {o1 o2 o' : Own} (h : TlSt X Y b rows o1 o2) (ha : Apart (Y.free o1) o') (rows' : List (List AVal)) : TlSt X (((Y.free o1).own o').put b (.cells [.sl rows' o'])) b rows' o' o2 := by
  have h1 := apart_ne ha h.cell h.ne1
  have h2 := h.st.step ha
  refine ⟨⟨owned_get h2.own1 (fun x hx => put_ne (fun e => h1 (by rw [hx, e]))), owned_get h2.own2 (fun x hx => put_ne (fun e => h.ne2 (by rw [hx, e]))), h2.ne, fun x hx => ?_⟩, put_same _ _ _, h1, h.ne2, h.new⟩
  have hxb : x ≠ b := fun e => hx (by rw [e]; exact h.new)
  rw [put_ne hxb]
  exact h2.old x hx
theorem TlSt.sub {X Y : AHeap} {b : Nat} {rows : List (List AVal)} {o1 o2 : Own} (h : TlSt X Y b rows o1 o2) : X.sub Y := h.st.sub
end Abs
end Go.Proofs.Ytpifnlodilcgkaa

set_option linter.unusedVariables false
namespace Go.Proofs.Ytpifnlodilcgkaa
namespace Abs
set_option linter.unusedSimpArgs false
set_option maxRecDepth 10000
set_option maxHeartbeats 2000000
attribute [local irreducible] AOps AW AP ACalls thenQ inBlk noGoto

/-! ### package build: Tell -/
theorem raws_app (l : List Raw) (r : Raw) : encRaws l ++ [encRaw r] = encRaws (l ++ [r]) := by simp [encRaws]
theorem ints_uni10 (l : List Int) : Uni 1 (encInts l) := fun x hx => by
  obtain ⟨e, _, rfl⟩ := List.mem_map.1 hx; rfl
theorem uni_raw1 (r : Raw) : Uni 9 [encRaw r] := fun x hx => by
  rw [List.mem_singleton.1 hx]; rfl
theorem tell1_c {t b1 b3 : Nat} {T : Tab} (hg : T.good) {X Y : AHeap} {out : List Raw} {o1 o2 : Own} (hm : TlSt X Y b3 (encRaws out) o1 o2) (he : ownEs 9 o1) (hl : out.length ≤ 10000) (hT : Rd X t (encTab T)) (hb1 : X b1 = some (.cells [.ptr t 0]))
    {i parent : Int} {name : ByteArray} {K : AVal → AHeap → Prop} (hK : ∀ Z o', TlSt X Z b3 (encRaws (out ++ [T.rawOf i parent name])) o' o2 → ownEs 9 o' → K (.tup []) Z) :
    ACalls Try.prog 59 [.i i, .i parent, .s name, .ptr b1 0, .ptr b3 0] Y K := by
  refine acalls_body Try.func59 rfl rfl rfl ?_
  have yT := hm.rd hT
  have y1' := hm.get hb1
  have y3' := hm.cell
  have ll := raws_len out
  repeat first|(apply x1;apply r0;apply r0)|(apply x2;apply r0;(with_reducible repeat exact q1 ‹_›);apply r0)|(apply x9;apply r0)|apply w6|apply w7
  refine tget_c hg.wf (by with_reducible assumption) ?_
  repeat (apply x1;apply r0;apply r0)
  refine s_alloc tk rfl rfl rfl (fun b8 hb8 => ?_); have hb := hb8; (try simp only [put_none_iff, prot_none_iff] at hb); (repeat obtain ⟨_, _, hb⟩ := hb)
  (apply xst;apply r0;(apply ps);apply r0)
  rw [put_put]
  replace hm := hm.put' hb8 (.cells (encNode (T.at i)))
  generalize hZ : Y.put b8 _ = Z at hm ⊢
  have z8 : Z b8 = some (.cells (encNode (T.at i))) := by rw [← hZ]; exact put_same _ _ _
  clear hZ
  have z3 := hm.cell
  repeat first|(apply x1;apply r0;apply r0)|(apply x2;apply r0;(with_reducible repeat exact q1 ‹_›);apply r0)|(apply xbd;apply r0)|(apply xbs;apply r0)|apply w4|apply w7|apply w5
  refine s_append tk rfl rfl rfl rfl rfl (raws_uni _) (uni_raw1 (T.rawOf i parent name)) rfl hm.st.own1 he (by rw [ll]; simp only [List.length_cons, List.length_nil]; omega) (fun o' ha he' => ?_)
  have w3' := hm.outCell ha
  repeat first|(apply xst;apply r0;(with_reducible assumption);apply r0)|apply w4
  have hm2 := hm.out ha (encRaws (out ++ [T.rawOf i parent name]))
  rw [← raws_app] at hm2
  refine rt0 rfl (AHeap.sub_refl _) (hK _ o' (by rw [← raws_app]; exact hm2) he')
theorem tell_c {t : Nat} {T : Tab} (hg : T.good) {H : AHeap} (hT : Rd H t (encTab T)) {K : AVal → AHeap → Prop} (hK : K (.sl (encRaws T.tell) .no) H) : ACalls Try.prog 31 [.ptr t 0] H K := by
  refine acalls_body Try.func31 rfl rfl rfl ?_
  unfold Tab.tell at hK
  repeat first|apply w6|apply w7
  refine s_box rfl rfl rfl (fun b1 hb1 => ?_); have hb := hb1; (try simp only [put_none_iff, prot_none_iff] at hb); (repeat obtain ⟨_, _, hb⟩ := hb)
  repeat first|(apply x1;apply r0;apply r0)|(apply x2;apply r0;(apply q0);apply r0)|(apply x9;apply r0)|apply w4|apply w6|apply w7|apply w5
  refine tright_c (op := []) hg.wf (Nat.zero_le _) (by with_reducible repeat first|assumption|apply q3|exact n1 ‹_› ‹_›) ?_
  repeat first|(apply x1;apply r0;apply r0)|apply w4|apply w5
  refine aw_cond rfl (fun c => ?_) (fun c => ?_)
  · have c' : ¬ T.right [] = true := by simpa using c
    rw [if_neg c'] at hK
    repeat first|(apply x1;apply r0;apply r0)|apply w4|apply w6|apply w7|apply wd|apply w5|apply we
    exact rt1 (H' := H) rfl rfl (.sl _ _) (by repeat first|exact s0|(apply su1;assumption)) hK
  have c' : T.right [] = true := by simpa using c
  rw [if_pos c'] at hK
  have htr := (right_iff hg).1 c'
  repeat first|apply w6|apply w7|apply wa|apply w5
  refine s_alloc tk rfl rfl rfl (fun b3 hb3 => ?_); have hb := hb3; (try simp only [put_none_iff, prot_none_iff] at hb); (repeat obtain ⟨_, _, hb⟩ := hb)
  repeat first|(apply x1;apply r0;apply r0)|(apply xbs;apply r0)|apply w4|apply w6|apply w7|apply w5
  generalize hX : AHeap.put H b1 _ = X at hb3 ⊢
  have xT : Rd X t (encTab T) := by rw [← hX]; exact (by with_reducible repeat first|assumption|apply q3|exact n1 ‹_› ‹_›)
  have xb1 : X b1 = some (.cells [.ptr t 0]) := by rw [← hX]; exact (by apply get_eq;(focus apply ps);rfl)
  have xs' : H.sub X := by rw [← hX]; exact (by repeat first|exact s0|(apply su1;assumption))
  clear hX
  have hm := TlSt.first hb3
  generalize X.put b3 _ = Y at hm ⊢
  refine s_clo rfl rfl rfl (fkall rfl) ?_
  refine tell1_c (out := []) hg hm trivial (by decide) xT xb1 (fun Z o' hm he1 => ?_)
  rw [List.nil_append] at hm
  repeat first|(apply x1;apply r0;apply r0)|apply w4|apply w6|apply w7|apply wb|apply w5
  refine aw_loop (fun s : Nat × (List Int × List Raw) × Own × Own × AHeap => s.1 ≤ 24 ∧ TI T s.2.1 ∧ s.2.1.2.length ≤ 1 + 20 * s.1 ∧ T.tellL (24 - s.1) s.1 s.2.1 = T.tellL 24 0 T.tell0 ∧ TlSt X s.2.2.2.2 b3 (encRaws s.2.1.2) s.2.2.1 s.2.2.2.1 ∧ ownEs 9 s.2.2.1 ∧ ownEs 1 s.2.2.2.1)
    (fun s => [(1, .ptr b1 0), (3, .ptr b3 0), (4, .sl (encInts s.2.1.1) s.2.2.2.1), (5, .clo 59 [] [.ptr b1 0, .ptr b3 0]), (6, .i s.1)])
    (fun s => s.2.2.2.2) (fun s => 24 - s.1) (0, T.tell0, o', .full, Z) ⟨Nat.zero_le _, TI.first htr, Nat.le_refl _, rfl, hm, he1, trivial⟩ (by repeat (first | exact Fr.sub_nil _ | refine Fr.sub_cons rfl ?_)) (AHeap.sub_refl _) ?_
  rintro ⟨k, s, o1, o2, Y⟩ ⟨hk, hti, hlen, hfin, hm, he1, he2⟩
  dsimp only at hk hti hlen hfin hm he1 he2 ⊢
  have hle := hti.le hg
  have lo := ints_len s.1
  repeat first|(apply x1;apply r0;apply r0)|apply w4|apply w6|apply w7|apply w5
  refine aw_cond rfl (fun d => ?_) (fun d => ?_)<;>first|replace d:=of_decide_eq_true d|replace d:=of_decide_eq_false d
  case refine_2 =>
    have hd : s.1.length ≤ k := by omega
    rw [tellL_end hd] at hfin
    rw [← hfin] at hK
    have y3 := hm.cell
    repeat first|(apply gO;first|(apply x1;apply r0;apply r0)|(apply x2;apply r0;(with_reducible repeat exact q1 ‹_›);apply r0)|apply w4)|(apply gW;first|apply w6|apply w7|apply wd|apply wc)|apply w5|apply wf|apply wh
    exact rt1 (H' := H) rfl rfl (.sl _ _) (AHeap.sub_trans xs' hm.sub) hK
  have d' : k < s.1.length := by omega
  have hget : (encInts s.1)[(k : Int).toNat]? = some [.i s.1[k]] := by simp [encInts, d']
  have yb1 := hm.get xb1
  have yT := hm.rd xT
  have hent := fun e (he : e ∈ (T.at s.1[k]).ents) => htr.ents s.1[k] e.node ⟨e, he, rfl⟩
  have hris := rising_at hg s.1[k]
  have hfew := at_few hg s.1[k]
  have hstep := tellL_step (T := T) (f := 24 - (k + 1)) d'
  rw [show 24 - (k + 1) + 1 = 24 - k by omega, hfin] at hstep
  generalize s.1[k] = dd at hget hent hris hfew hstep
  apply wa; apply w5; apply w6; apply wb; apply w6
  refine aw_cutS (fun F' H' => ∃ b7, Y b7 = none ∧ Fr.sub [(1, .ptr b1 0), (3, .ptr b3 0), (4, .sl (encInts s.1) o2), (5, .clo 59 [] [.ptr b1 0, .ptr b3 0]), (6, .i k), (7, .ptr b7 0)] F' ∧ (Y.put b7 (.cells (encNode (T.at dd)))).sub H') ?_ ?_
  · refine aw_prot [b1] (allc (by with_reducible repeat exact q1 ‹_›) (allc0 _)) ?_
    refine aw_plan mixed (.take 0 (.take 1 (.take 2 (.take 3 (.take 4 (.two 5 9 (.take 6 (.take 7 (.take 8 (.one 9 (.one 10 (.take 11 .done)))))) (.one 5 (.take 6 (.take 7 (.take 8 (.one 10 (.take 11 .done)))))))))))) (by kernel_rfl) ?_
    repeat first|(apply y1;apply r0;apply r0)|(apply y2;apply r0;apply r0;(with_reducible repeat first|exact q1 ‹_›|apply pg|exact mm0);apply r0)
    refine d_index rfl rfl rfl rfl rfl rfl (by omega) hget rfl ?_
    repeat (apply y3;apply r0;apply r0)
    refine e_two rfl rfl ?_ ?_
    · repeat (apply x9;apply r0)
      refine tget_c hg.wf (by with_reducible repeat first|assumption|apply q4) ?_
      repeat first|apply w4|(apply y1;apply r0;apply r0)|(apply y4;apply r0)
      refine s_alloc tk rfl rfl rfl (fun b7 hb7 => ?_); have hb := hb7; (try simp only [put_none_iff, prot_none_iff] at hb); (repeat obtain ⟨_, _, hb⟩ := hb)
      repeat first|(apply xst;apply r0;(apply ps);apply r0)|apply w4|(apply y1;apply r0;apply r0)|apply y0|(apply y4;apply r0)
      simp only [put_put]
      refine prot_done_put (by simp only [List.mem_cons,List.not_mem_nil,or_false,not_or]; first|exact (by first|assumption|exact n1 ‹_› ‹_›|exact n2 ‹_› ‹_›|exact n3 ‹_› ‹_›|exact n4 ‹_› ‹_›)|exact ⟨(by first|assumption|exact n1 ‹_› ‹_›|exact n2 ‹_› ‹_›|exact n3 ‹_› ‹_›|exact n4 ‹_› ‹_›),(by first|assumption|exact n1 ‹_› ‹_›|exact n2 ‹_› ‹_›|exact n3 ‹_› ‹_›|exact n4 ‹_› ‹_›)⟩|exact ⟨(by first|assumption|exact n1 ‹_› ‹_›|exact n2 ‹_› ‹_›|exact n3 ‹_› ‹_›|exact n4 ‹_› ‹_›),(by first|assumption|exact n1 ‹_› ‹_›|exact n2 ‹_› ‹_›|exact n3 ‹_› ‹_›|exact n4 ‹_› ‹_›),(by first|assumption|exact n1 ‹_› ‹_›|exact n2 ‹_› ‹_›|exact n3 ‹_› ‹_›|exact n4 ‹_› ‹_›)⟩) ?_
      repeat apply w5
      exact ⟨b7, hb, (by repeat (first | exact Fr.sub_nil _ | refine Fr.sub_cons rfl ?_)), AHeap.sub_refl _⟩
    · skip
      refine s_alloc tk rfl rfl rfl (fun b7 hb7 => ?_); have hb := hb7; (try simp only [put_none_iff, prot_none_iff] at hb); (repeat obtain ⟨_, _, hb⟩ := hb)
      repeat first|(apply x9;apply r0)|apply w4|(apply y4;apply r0)
      refine tget_c hg.wf (by with_reducible repeat first|assumption|apply q4|apply q3|exact n1 ‹_› ‹_›) ?_
      repeat first|(apply xst;apply r0;(apply ps);apply r0)|apply w4|(apply y1;apply r0;apply r0)|apply y0|(apply y4;apply r0)
      simp only [put_put]
      refine prot_done_put (by simp only [List.mem_cons,List.not_mem_nil,or_false,not_or]; first|exact (by first|assumption|exact n1 ‹_› ‹_›|exact n2 ‹_› ‹_›|exact n3 ‹_› ‹_›|exact n4 ‹_› ‹_›)|exact ⟨(by first|assumption|exact n1 ‹_› ‹_›|exact n2 ‹_› ‹_›|exact n3 ‹_› ‹_›|exact n4 ‹_› ‹_›),(by first|assumption|exact n1 ‹_› ‹_›|exact n2 ‹_› ‹_›|exact n3 ‹_› ‹_›|exact n4 ‹_› ‹_›)⟩|exact ⟨(by first|assumption|exact n1 ‹_› ‹_›|exact n2 ‹_› ‹_›|exact n3 ‹_› ‹_›|exact n4 ‹_› ‹_›),(by first|assumption|exact n1 ‹_› ‹_›|exact n2 ‹_› ‹_›|exact n3 ‹_› ‹_›|exact n4 ‹_› ‹_›),(by first|assumption|exact n1 ‹_› ‹_›|exact n2 ‹_› ‹_›|exact n3 ‹_› ‹_›|exact n4 ‹_› ‹_›)⟩) ?_
      repeat apply w5
      exact ⟨b7, hb, (by repeat (first | exact Fr.sub_nil _ | refine Fr.sub_cons rfl ?_)), AHeap.sub_refl _⟩
  have hm0 := hm
  rintro F' H' ⟨b7, hb7, hF, hH⟩
  refine AW_sub ?_ hF hH
  clear hF hH
  have hsn := names_sorted hris
  have hents := hfew.1
  replace hm := hm.put hb7 (.cells (encNode (T.at dd)))
  have xb7 : X b7 = none := by
    cases hX : X b7 with
    | none => rfl
    | some p => have := hm0.get hX; rw [hb7] at this; cases this
  have hless : ∀ x, X x ≠ none → (X.put b7 (.cells (encNode (T.at dd)))) x = X x := fun x hx => put_ne (fun e => hx (e ▸ xb7))
  have xT2 : Rd (X.put b7 (.cells (encNode (T.at dd)))) t (encTab T) := xT.elim (fun e => .inl ((hless t (by rw [e]; simp)).trans e)) (fun e => .inr ((hless t (by rw [e]; simp)).trans e))
  have xb12 : (X.put b7 (.cells (encNode (T.at dd)))) b1 = some (.cells [.ptr t 0]) := (hless b1 (by rw [xb1]; simp)).trans xb1
  have x72 : (X.put b7 (.cells (encNode (T.at dd)))) b7 = some (.cells (encNode (T.at dd))) := put_same _ _ _
  generalize X.put b7 _ = X' at hm hless xT2 xb12 x72
  generalize Y.put b7 _ = Z at hm ⊢
  have z7 := hm.get x72
  repeat first|(apply x2;apply r0;(with_reducible repeat exact q1 ‹_›);apply r0)|(apply x9;apply r0)|apply w6|apply w7
  refine names_c hfew.small ?_
  rw [hsn]
  have hnl : (encStrs (entNames (T.at dd).ents)).length = (T.at dd).ents.length := by simp [encStrs, entNames]
  repeat first|(apply x1;apply r0;apply r0)|apply w4|apply wb|apply w5
  refine aw_loop (fun z : Nat × Own × Own × AHeap => z.1 ≤ (T.at dd).ents.length ∧ TlSt X' z.2.2.2 b3 (encRaws (T.tellN k s ((T.at dd).ents.take z.1)).2) z.2.1 z.2.2.1 ∧ ownEs 9 z.2.1 ∧ ownEs 1 z.2.2.1)
    (fun z => [(1, .ptr b1 0), (3, .ptr b3 0), (4, .sl (encInts (T.tellN k s ((T.at dd).ents.take z.1)).1) z.2.2.1), (5, .clo 59 [] [.ptr b1 0, .ptr b3 0]), (6, .i k), (7, .ptr b7 0), (36, .sl (encStrs (entNames (T.at dd).ents)) .no), (37, .i (encStrs (entNames (T.at dd).ents)).length), (38, .i z.1)])
    (fun z => z.2.2.2) (fun z => (T.at dd).ents.length - z.1) (0, o1, o2, Z) ⟨Nat.zero_le _, hm, he1, he2⟩ (by repeat (first | exact Fr.sub_nil _ | refine Fr.sub_cons rfl ?_)) (AHeap.sub_refl _) ?_
  clear hm z7 he1 he2
  rintro ⟨j, q1', q2', W⟩ ⟨hj, hm, he1, he2⟩
  dsimp only at hj hm he1 he2 ⊢
  have htj := TI.fold (T := T) k (l := (T.at dd).ents.take j) hti (fun e he => hent e (List.mem_of_mem_take he))
  have hlj := htj.le hg
  have hoj := tellN_len (T := T) k (l := (T.at dd).ents.take j) (s := s)
  rw [List.length_take] at hoj
  repeat first|(apply x1;apply r0;apply r0)|apply w4|apply w6|apply w7|apply w5
  refine aw_cond rfl (fun f => ?_) (fun f => ?_)<;>first|replace f:=of_decide_eq_true f|replace f:=of_decide_eq_false f
  case refine_2 =>
    have hje : j = (T.at dd).ents.length := by omega
    subst hje
    rw [List.take_length] at hm htj hlj hoj
    rw [List.take_length]
    repeat first|(apply gO;first|(apply x1;apply r0;apply r0)|apply w4|(apply x6;apply r0;omega))|(apply gW;first|apply w7|apply wc)|apply w5|apply wg|apply wf|apply wh
    refine ⟨(k + 1, T.tellN k s (T.at dd).ents, q1', q2', W), ⟨by omega, htj, ?_, hstep.symm, hm.less hless, he1, he2⟩, by dsimp only; omega, (by repeat (first | exact Fr.sub_nil _ | refine Fr.sub_cons rfl ?_)), AHeap.sub_refl _⟩
    dsimp only
    omega
  have f' : j < (T.at dd).ents.length := by omega
  have hgn : (encStrs (entNames (T.at dd).ents))[(j : Int).toNat]? = some [.s (T.at dd).ents[j].name] := by simp [encStrs, entNames, f']
  have hfind := find_at hris f'
  have htake := tellN_take (T := T) (k := k) (s := s) f'
  have z7 := hm.get x72
  generalize T.tellN k s ((T.at dd).ents.take j) = S at hm htj hlj hoj htake ⊢
  obtain ⟨ord, out⟩ := S
  dsimp only at hm htj hlj hoj htake ⊢
  have lo2 := ints_len ord
  have ll2 := raws_len out
  repeat first|apply w6|apply w7|apply wa|apply wb|apply w5
  refine s_index tk rfl rfl rfl rfl (by omega) hgn rfl ?_
  repeat first|(apply gO;first|(apply x1;apply r0;apply r0)|(apply x2;apply r0;(with_reducible repeat exact q1 ‹_›);apply r0)|(apply x3;apply r0)|(apply x9;apply r0)|apply w4)|(apply gW;first|apply w6|apply w7)|apply w5
  refine find_c hfew.small ?_
  rw [hfind]
  generalize (T.at dd).ents[j] = e at hfind htake
  repeat first|(apply x1;apply r0;apply r0)|(apply x9;apply r0)|apply w4|apply w6|apply w7|apply w5
  refine index2_c (l := ord) (by omega) (fun h0 => ?_) (fun p hp hpe hpf => ?_)
  · have hT1 : T.tellE k (ord, out) e = (ord ++ [e.node], out ++ [T.rawOf e.node ((k : Int) + 1) e.name]) := by unfold Tab.tellE; rw [placeI_none.2 h0]
    rw [hT1] at htake
    repeat first|(apply gO;first|(apply x1;apply r0;apply r0)|(apply xbs;apply r0)|apply w4)|(apply gW;first|apply w6|apply w7|(apply w9;apply r0)|apply wa)|apply w5
    refine s_append tk rfl rfl rfl rfl rfl (ints_uni10 _) (uni_one1 (.i e.node)) rfl hm.st.own2 he2 (by rw [lo2]; simp only [List.length_cons, List.length_nil]; omega) (fun p2 ha he2' => ?_)
    replace hm := hm.order ha
    clear z7 ha
    generalize ((_ : AHeap).free _).own p2 = V at hm ⊢
    rw [show encInts ord ++ [[.i e.node]] = encInts (ord ++ [e.node]) by simp [encInts]]
    repeat first|(apply x1;apply r0;apply r0)|apply w4|(apply x6;apply r0;omega)|apply w7|apply w5
    refine s_clo rfl rfl rfl (fkall rfl) ?_
    refine tell1_c (out := out) hg hm he1 (by omega) xT2 xb12 (fun V2 o2' hm he1' => ?_)
    repeat first|(apply x1;apply r0;apply r0)|apply w4|(apply x6;apply r0;omega)|apply w7|apply w5|apply wg
    refine ⟨(j + 1, o2', p2, V2), ⟨f', ?_, he1', he2'⟩, by dsimp only; omega, ?_, AHeap.sub_refl _⟩
    · dsimp only; rw [htake]; exact hm
    · dsimp only; rw [htake]; exact (by repeat (first | exact Fr.sub_nil _ | refine Fr.sub_cons rfl ?_))
  · have hT1 : T.tellE k (ord, out) e = (ord, out ++ [againR ((k : Int) + 1) e.name ((p : Int) + 1)]) := by unfold Tab.tellE; rw [placeI_some hp hpe hpf]
    rw [hT1] at htake
    have z3 := hm.cell
    repeat first|(apply gO;first|(apply x1;apply r0;apply r0)|(apply x2;apply r0;(with_reducible repeat exact q1 ‹_›);apply r0)|(apply xbd;apply r0)|(apply xbs;apply r0)|apply w4|(apply x6;apply r0;omega))|(apply gW;first|apply w6|apply w7|(apply w8;apply r0))|apply w5
    refine aops_wkf (d := 57) (u := .sl [encRaw (againR ((k : Int) + 1) e.name ((p : Int) + 1))] .no) rfl (wk_rows rfl) ?_
    refine s_append tk rfl rfl rfl rfl rfl (raws_uni _) (uni_raw1 _) rfl hm.st.own1 he1 (by rw [ll2]; simp only [List.length_cons, List.length_nil]; omega) (fun p1 ha he1' => ?_)
    have z3' := hm.outCell ha
    repeat first|(apply gO;first|(apply x1;apply r0;apply r0)|(apply xst;apply r0;(with_reducible assumption);apply r0)|apply w4|(apply x6;apply r0;omega))|(apply gW;first|apply w7|apply wc)|apply w5|apply wf|apply wh
    have hm2 := hm.out ha (encRaws (out ++ [againR ((k : Int) + 1) e.name ((p : Int) + 1)]))
    rw [← raws_app] at hm2
    refine ⟨(j + 1, p1, q2', ((W.free q1').own p1).put b3 (.cells [.sl (encRaws out ++ [encRaw (againR ((k : Int) + 1) e.name ((p : Int) + 1))]) p1])), ⟨f', ?_, he1', he2⟩, by dsimp only; omega, ?_, AHeap.sub_refl _⟩
    · dsimp only; rw [htake, ← raws_app]; exact hm2
    · dsimp only; rw [htake]; exact (by repeat (first | exact Fr.sub_nil _ | refine Fr.sub_cons rfl ?_))
end Abs
end Go.Proofs.Ytpifnlodilcgkaa
