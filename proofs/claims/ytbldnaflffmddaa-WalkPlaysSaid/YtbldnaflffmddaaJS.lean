import Derived.Test.YtbldnaflffmddaaJO
set_option linter.unusedVariables false
namespace Go.Proofs.Ytbldnaflffmddaa
namespace Abs
set_option linter.unusedSimpArgs false
set_option maxRecDepth 10000
set_option maxHeartbeats 2000000
attribute [local irreducible] AOps AW AP ACalls thenQ inBlk noGoto

/-! ### the document's walk -/
def encWRO (w : Wkr) (kn : List Int) (o o2 : Own) : List AVal := [.sc (.int .u8 w.how), .b w.deep, .sl (encItms w.left) o, .s w.last.path, .b w.last.op, .b w.last.fo, .b w.begun, .sl (encInts kn) o2]
def encWR (w : Wkr) (kn : List Int) : List AVal := encWRO w kn .no .no
theorem rt3cc {n : Nat} {F : Fr} {H : AHeap} {fn : Func} {R : AVal → AHeap → Prop} {H' : AHeap} {p u v : Tmp} {t t2 : TypeId} {b k b2 k2 : Nat} {cs ds : List AVal} {v3 : AVal} {w : AVal} (hr : fn.results = #[.cell p t, .cell u t2, .tmp v]) (hp : F.get p = some (.ptr b 0)) (hH : Rd H b cs) (ht : find ttab.size t = some (k, true)) (hl : cs.length = k)
    (hp2 : F.get u = some (.ptr b2 0)) (hH2 : Rd H b2 ds) (ht2 : find ttab.size t2 = some (k2, true)) (hl2 : ds.length = k2) (h3 : F.get v = some v3)
    (hw : Wk (.tup [.agg cs, .agg ds, v3]) w) (hs : H'.sub H) (hK : R w H') : retQ Try.prog fn n R .ret F H := ⟨_, res3 hr (rvar_agg tk hp hH ht hl) (rvar_agg tk hp2 hH2 ht2 hl2) (rvar_tmp h3), _, _, hw, hs, hK⟩
theorem prot_done_put2 {H : AHeap} {bs : List Nat} {t u : Nat} {o p : HObj} {Q : AHeap → Prop} (ht : t ∉ bs) (hu : u ∉ bs) (h : Q ((H.put t o).put u p)) : (∀ b, b ∈ bs → (((H.prot bs).put t o).put u p) b = H.prot bs b) ∧ Q ((((H.prot bs).put t o).put u p).back H bs) :=
  ⟨fun b hb => by
    have h1 : b ≠ t := fun e => ht (e ▸ hb)
    have h2 : b ≠ u := fun e => hu (e ▸ hb)
    exact (put_ne h2).trans (put_ne h1), by
    have : (((H.prot bs).put t o).put u p).back H bs = (H.put t o).put u p := by
      funext x
      by_cases hx : x ∈ bs
      · have h1 : x ≠ t := fun e => ht (e ▸ hx)
        have h2 : x ≠ u := fun e => hu (e ▸ hx)
        rw [back_in hx, put_ne h2, put_ne h1]
      · rw [back_out hx]
        simp only [AHeap.put, prot_other hx]
    rw [this]; exact h⟩
theorem rjoin_c {d s : ByteArray} (hd : d.size ≤ 4294967296) (hs : s.size ≤ 4294967296) {H : AHeap} {K : AVal → AHeap → Prop} (hK : K (.s (joinOf d s)) H) : ACalls Try.prog 43 [.s d, .s s] H K := by
  refine acalls_body Try.func43 rfl rfl rfl ?_
  unfold joinOf at hK
  repeat first|(apply x1;apply r0;apply r0)|apply w4|apply w6|apply w7|apply w5
  refine s_gsplit rfl rfl (fun g => ?_) (fun g => ?_)<;>first|replace g:=of_decide_eq_true g|replace g:=of_decide_eq_false g
  · rw [decide_eq_true g, Bool.true_or, if_pos rfl] at hK
    repeat first|(apply x1;apply r0;apply r0)|apply w4|(apply w3;apply r0;apply r0)|apply w6|apply w7|(apply w8;apply r0)|apply w5
    refine s_cat rfl rfl rfl (by omega) ?_
    repeat first|(apply x1;apply r0;apply r0)|apply w4|apply wd|apply w5|apply we
    exact rt1 rfl rfl (.refl _) (AHeap.sub_refl _) hK
  rw [decide_eq_false g, Bool.false_or] at hK
  have hp : 0 < d.data.toList.length := by
    rcases Nat.eq_zero_or_pos d.data.toList.length with h | h
    · exact absurd (by obtain ⟨⟨l⟩⟩ := d; have : l = [] := List.length_eq_zero_iff.1 h; subst this; rfl) g
    · exact h
  have hdl : d.data.toList.length = d.size := by rw [Array.length_toList]; rfl
  obtain ⟨c, hc⟩ : ∃ c, d.data.toList[((d.size : Int) - 1).toNat]? = some c := ⟨_, List.getElem?_eq_getElem (by omega)⟩
  have he : endOf d = decide (c = 47) := by
    unfold endOf byL
    rw [show d.size - 1 = ((d.size : Int) - 1).toNat by omega, hc]
    exact decide_eq_decide.2 ⟨fun h => Option.some.inj h, fun h => by rw [h]⟩
  have e1 : (⟨#[47]⟩ : ByteArray).size = 1 := rfl
  repeat first|(apply x1;apply r0;apply r0)|(apply x5;apply r0)|(apply x7;apply r0;omega)
  refine s_indexs tk rfl rfl rfl rfl (by omega) hc ?_
  repeat first|(apply x1;apply r0;apply r0)|(apply x5;apply r0)|apply w4|apply w5
  refine aw_cond rfl (fun e => ?_) (fun e => ?_)<;>first|replace e:=of_decide_eq_true e|replace e:=of_decide_eq_false e
  · have e' : c = 47 := UInt8.toNat_inj.1 (by have : (c.toNat : Int) = 47 := e; show c.toNat = 47; omega)
    rw [he, decide_eq_true e', if_pos rfl] at hK
    repeat first|(apply x1;apply r0;apply r0)|apply w6|apply w7
    refine s_cat rfl rfl rfl (by omega) ?_
    repeat first|(apply x1;apply r0;apply r0)|apply w4|apply wd|apply w5|apply we
    exact rt1 rfl rfl (.refl _) (AHeap.sub_refl _) hK
  · have e' : ¬ c = 47 := fun h => e (by rw [h]; rfl)
    rw [he, decide_eq_false e', if_neg (by decide)] at hK
    repeat first|(apply x1;apply r0;apply r0)|apply w6|apply w7|apply wa|apply w5
    refine s_cat rfl rfl rfl (by rw [e1]; omega) ?_
    repeat (apply x1;apply r0;apply r0)
    refine s_cat rfl rfl rfl (by rw [ByteArray.size_append, e1]; omega) ?_
    repeat first|(apply x1;apply r0;apply r0)|apply w4|apply wd|apply w5
    exact rt1 rfl rfl (.refl _) (AHeap.sub_refl _) hK
theorem rfollow_c {w : Wkr} {kn : List Int} {o o2 : Own} {op : Bool} {H : AHeap} {K : AVal → AHeap → Prop} (hK : K (.b (followF w.deep w.how op)) H) : ACalls Try.prog 40 [.agg (encWRO w kn o o2), .b op] H K := by
  refine acalls_body Try.func40 rfl rfl rfl ?_
  unfold followF at hK
  unfold encWRO
  cases hd : w.deep with
  | false =>
    rw [hd] at hK
    repeat first|apply w6|apply w7
    refine s_box rfl rfl rfl (fun b2 hb2 => ?_); have hb := hb2; (try simp only [put_none_iff, prot_none_iff] at hb); (repeat obtain ⟨_, _, hb⟩ := hb)
    repeat first|(apply gO;first|(apply x1;apply r0;apply r0)|(apply x2;apply r0;(apply q0);apply r0)|apply w4|(apply w3;apply r0;apply r0))|(apply gW;first|apply w6|apply w7|apply wd)|apply w5
    exact rt1 (H' := H) rfl rfl (.refl _) (by repeat first|exact s0|(apply su1;assumption)) hK
  | true =>
    rw [hd] at hK
    repeat first|apply w6|apply w7
    refine s_box rfl rfl rfl (fun b2 hb2 => ?_); have hb := hb2; (try simp only [put_none_iff, prot_none_iff] at hb); (repeat obtain ⟨_, _, hb⟩ := hb)
    repeat first|(apply x1;apply r0;apply r0)|(apply x2;apply r0;(apply q0);apply r0)|(apply x5;apply r0)|apply w4|apply w6|apply w7|apply w5
    refine s_gsplit rfl rfl (fun g1 => ?_) (fun g1 => ?_)<;>first|replace g1:=of_decide_eq_true g1|replace g1:=of_decide_eq_false g1
    · rw [decide_eq_true g1] at hK
      repeat first|(apply x1;apply r0;apply r0)|apply w4|(apply w3;apply r0;apply r0)|apply wd|apply w5
      exact rt1 (H' := H) rfl rfl (.refl _) (by repeat first|exact s0|(apply su1;assumption)) hK
    rw [decide_eq_false g1] at hK
    repeat first|(apply x1;apply r0;apply r0)|(apply x2;apply r0;(apply q0);apply r0)|(apply x5;apply r0)
    refine s_gsplit rfl rfl (fun g2 => ?_) (fun g2 => ?_)<;>first|replace g2:=of_decide_eq_true g2|replace g2:=of_decide_eq_false g2
    · rw [decide_eq_true g2] at hK
      repeat first|(apply x1;apply r0;apply r0)|(apply x5;apply r0)|apply w4|apply wd|apply w5
      exact rt1 (H' := H) rfl rfl (.refl _) (by repeat first|exact s0|(apply su1;assumption)) hK
    · rw [decide_eq_false g2] at hK
      repeat first|(apply x1;apply r0;apply r0)|(apply x5;apply r0)|apply w4|(apply w3;apply r0;apply r0)|apply wd|apply w5
      exact rt1 (H' := H) rfl rfl (.refl _) (by repeat first|exact s0|(apply su1;assumption)) hK
theorem rnext_c {w : Wkr} {kn : List Int} (hl : w.left.length ≤ 9223372036854775807) {H : AHeap} {K : AVal → AHeap → Prop} (h0 : w.left = [] → K (.tup [.agg (encWR w kn), .agg (encItm Itm.zero), .b false]) H)
    (h1 : ∀ i l, w.left = i :: l → K (.tup [.agg (encWR { w with left := l, last := i, begun := true } kn), .agg (encItm i), .b true]) H) : ACalls Try.prog 17 [.agg (encWR w kn)] H K := by
  refine acalls_body Try.func17 rfl rfl rfl ?_
  unfold encWR encWRO
  have li := itms_len w.left
  repeat first|apply w6|apply w7
  refine s_box rfl rfl rfl (fun b1 hb1 => ?_); have hb := hb1; (try simp only [put_none_iff, prot_none_iff] at hb); (repeat obtain ⟨_, _, hb⟩ := hb)
  skip
  refine s_alloc tk rfl rfl rfl (fun b2 hb2 => ?_); have hb := hb2; (try simp only [put_none_iff, prot_none_iff] at hb); (repeat obtain ⟨_, _, hb⟩ := hb)
  skip
  refine s_alloc tk rfl rfl rfl (fun b3 hb3 => ?_); have hb := hb3; (try simp only [put_none_iff, prot_none_iff] at hb); (repeat obtain ⟨_, _, hb⟩ := hb)
  repeat first|(apply x1;apply r0;apply r0)|(apply x2;apply r0;(with_reducible repeat first|assumption|apply q0|apply q3);apply r0)|apply w4|apply w6|apply w7|apply w5
  refine aw_cond rfl (fun c => ?_) (fun c => ?_)<;>first|replace c:=of_decide_eq_true c|replace c:=of_decide_eq_false c
  · have hn : w.left = [] := List.length_eq_zero_iff.1 (by omega)
    repeat first|(apply gO;first|(apply x1;apply r0;apply r0)|(apply x2;apply r0;(with_reducible repeat first|assumption|apply q0|apply ps|apply q3|apply gp);apply r0)|(apply xst;apply r0;(with_reducible repeat first|assumption|apply q0|apply ps|apply q3|apply gp);apply r0)|(apply xbd;apply r0)|apply w4)|(apply gW;first|apply w6|apply w7|apply wd)|apply w5|apply we
    exact rt3cc (H' := H) rfl rfl (by with_reducible repeat first|assumption|apply q0|apply q3) rfl (by rfl) rfl (by apply q0) rfl (by rfl) rfl (by exact .refl _) (by repeat first|exact s0|(apply su1;assumption)) (h0 hn)
  obtain ⟨i, l, hn⟩ : ∃ i l, w.left = i :: l := by
    cases h : w.left with
    | nil => rw [h] at c; exact absurd rfl c
    | cons i l => exact ⟨i, l, rfl⟩
  have hK := h1 i l hn
  rw [hn] at li ⊢
  have hget : (encItms (i :: l))[(0 : Int).toNat]? = some (encItm i) := rfl
  repeat first|(apply x1;apply r0;apply r0)|(apply x2;apply r0;(with_reducible repeat first|assumption|apply q0|apply q3);apply r0)|apply w6|apply w7|apply wa|apply w5
  refine s_index tk rfl rfl rfl rfl (by decide) hget rfl ?_
  repeat first|(apply gO;first|(apply x1;apply r0;apply r0)|(apply x2;apply r0;(with_reducible repeat first|assumption|apply q0|apply ps|apply gp);apply r0)|(apply xst;apply r0;(with_reducible repeat first|assumption|apply q0|apply ps|apply gp);apply r0)|(apply x3;apply r0)|apply w4)|(apply gW;first|apply w6|apply w7)|apply w5
  refine s_slice (l := 1) (h := (((encItms (i :: l)).length : Nat) : Int)) tk rfl rfl rfl (itms_uni _) rfl rfl (by decide) (by rw [itms_len, List.length_cons]; omega) (Int.le_refl _) ?_
  rw [show ((encItms (i :: l)).take ((((encItms (i :: l)).length : Nat) : Int)).toNat).drop (1 : Int).toNat = encItms l by rw [Int.toNat_natCast, List.take_length]; rfl]
  repeat first|(apply x1;apply r0;apply r0)|(apply xst;apply r0;(apply ps);apply r0)|apply w4|apply w6|apply w7|apply w5
  refine aw_prot [b1] (allc (by apply q0) (allc0 _)) ?_
  refine aw_plan mixed (.take 0 (.take 1 (.take 2 (.one 3 (.one 4 (.take 5 .done)))))) (by kernel_rfl) ?_
  repeat first|(apply xst;apply r0;(with_reducible repeat first|assumption|apply q0|apply ps|apply pg|apply gp|apply gq|apply nm1|exact nm0|exact mm0);apply r0)|apply w4|(apply y1;apply r0;apply r0)|apply y0|(apply y4;apply r0)|(apply y2;apply r0;apply r0;(with_reducible repeat first|assumption|apply q0|apply ps|apply pg|apply gp|apply gq|apply nm1|exact nm0|exact mm0);apply r0)
  refine prot_done_put2 (by simp only [List.mem_cons,List.not_mem_nil,or_false,not_or]; first|exact (by first|assumption|exact n1 ‹_› ‹_›|exact n2 ‹_› ‹_›|exact n3 ‹_› ‹_›|exact n4 ‹_› ‹_›)|exact ⟨(by first|assumption|exact n1 ‹_› ‹_›|exact n2 ‹_› ‹_›|exact n3 ‹_› ‹_›|exact n4 ‹_› ‹_›),(by first|assumption|exact n1 ‹_› ‹_›|exact n2 ‹_› ‹_›|exact n3 ‹_› ‹_›|exact n4 ‹_› ‹_›)⟩|exact ⟨(by first|assumption|exact n1 ‹_› ‹_›|exact n2 ‹_› ‹_›|exact n3 ‹_› ‹_›|exact n4 ‹_› ‹_›),(by first|assumption|exact n1 ‹_› ‹_›|exact n2 ‹_› ‹_›|exact n3 ‹_› ‹_›|exact n4 ‹_› ‹_›),(by first|assumption|exact n1 ‹_› ‹_›|exact n2 ‹_› ‹_›|exact n3 ‹_› ‹_›|exact n4 ‹_› ‹_›)⟩) (by simp only [List.mem_cons,List.not_mem_nil,or_false,not_or]; first|exact (by first|assumption|exact n1 ‹_› ‹_›|exact n2 ‹_› ‹_›|exact n3 ‹_› ‹_›|exact n4 ‹_› ‹_›)|exact ⟨(by first|assumption|exact n1 ‹_› ‹_›|exact n2 ‹_› ‹_›|exact n3 ‹_› ‹_›|exact n4 ‹_› ‹_›),(by first|assumption|exact n1 ‹_› ‹_›|exact n2 ‹_› ‹_›|exact n3 ‹_› ‹_›|exact n4 ‹_› ‹_›)⟩|exact ⟨(by first|assumption|exact n1 ‹_› ‹_›|exact n2 ‹_› ‹_›|exact n3 ‹_› ‹_›|exact n4 ‹_› ‹_›),(by first|assumption|exact n1 ‹_› ‹_›|exact n2 ‹_› ‹_›|exact n3 ‹_› ‹_›|exact n4 ‹_› ‹_›),(by first|assumption|exact n1 ‹_› ‹_›|exact n2 ‹_› ‹_›|exact n3 ‹_› ‹_›|exact n4 ‹_› ‹_›)⟩) ?_
  repeat first|apply wd|apply w5
  exact rt3cc (H' := H) rfl rfl (by with_reducible repeat first|assumption|apply q0|apply q3) rfl (by rfl) rfl (by apply q0) rfl (by rfl) rfl (by exact .refl _) (by repeat first|exact s0|(apply su1;assumption)) hK
theorem ints_uniW (l : List Int) : Uni 1 (encInts l) := fun x hx => by
  obtain ⟨e, _, rfl⟩ := List.mem_map.1 hx; rfl
theorem ints_uniW1 (n : Int) : Uni 1 [[AVal.i n]] := fun x hx => by
  rw [List.mem_singleton.1 hx]; rfl
theorem ints_flatW (l : List Int) : flatA (encInts l).flatten = true := by
  simp only [flatA, List.all_eq_true]
  intro x hx
  obtain ⟨y, hy, hxy⟩ := List.mem_flatten.1 hx
  obtain ⟨e, _, rfl⟩ := List.mem_map.1 hy
  rw [List.mem_singleton.1 hxy]; rfl
theorem ints_appW (l : List Int) (n : Int) : encInts l ++ [[AVal.i n]] = encInts (l ++ [n]) := by simp [encInts]
theorem rsee_c {w : Wkr} {kn : List Int} (hl : kn.length ≤ 100000) {node kind c3 c4 c5 c6 c7 : Int} {H : AHeap} {K : AVal → AHeap → Prop}
    (h0 : (w.deep = false ∨ ¬ kind = 2) → K (.tup [.agg (encWR w kn), .b true]) H) (h1 : w.deep = true → kind = 2 → K (.tup [.agg (encWR w (kn ++ [node])), .b (!kn.contains node)]) H) :
    ACalls Try.prog 18 [.agg (encWR w kn), .agg (encStt node kind c3 c4 c5 c6 c7)] H K := by
  refine acalls_body Try.func18 rfl rfl rfl ?_
  have li := ints_len kn
  rw [show encWR w kn = [.sc (.int .u8 w.how), .b w.deep, .sl (encItms w.left) .no, .s w.last.path, .b w.last.op, .b w.last.fo, .b w.begun, .sl (encInts kn) .no] from rfl] at h0 ⊢
  cases hd : w.deep with
  | false =>
    rw [hd] at h0
    repeat first|apply w6|apply w7
    refine s_box rfl rfl rfl (fun b2 hb2 => ?_); have hb := hb2; (try simp only [put_none_iff, prot_none_iff] at hb); (repeat obtain ⟨_, _, hb⟩ := hb)
    skip
    refine s_box rfl rfl rfl (fun b3 hb3 => ?_); have hb := hb3; (try simp only [put_none_iff, prot_none_iff] at hb); (repeat obtain ⟨_, _, hb⟩ := hb)
    skip
    refine s_alloc tk rfl rfl rfl (fun b4 hb4 => ?_); have hb := hb4; (try simp only [put_none_iff, prot_none_iff] at hb); (repeat obtain ⟨_, _, hb⟩ := hb)
    repeat first|(apply gO;first|(apply x1;apply r0;apply r0)|(apply x2;apply r0;(with_reducible repeat first|assumption|apply q0|apply ps|apply q3);apply r0)|(apply xst;apply r0;(with_reducible repeat first|assumption|apply q0|apply ps|apply q3);apply r0)|apply w4|(apply w3;apply r0;apply r0))|(apply gW;first|apply w6|apply w7|(apply w8;apply r0)|apply wd)|apply w5|apply we
    exact rt2c (H' := H) rfl rfl (by apply q0) rfl (by rfl) rfl (by exact .refl _) (by repeat first|exact s0|(apply su1;assumption)) (h0 (by first | exact .inl rfl | exact .inr g1))
  | true =>
  rw [hd] at h0
  repeat first|apply w6|apply w7
  refine s_box rfl rfl rfl (fun b2 hb2 => ?_); have hb := hb2; (try simp only [put_none_iff, prot_none_iff] at hb); (repeat obtain ⟨_, _, hb⟩ := hb)
  skip
  refine s_box rfl rfl rfl (fun b3 hb3 => ?_); have hb := hb3; (try simp only [put_none_iff, prot_none_iff] at hb); (repeat obtain ⟨_, _, hb⟩ := hb)
  skip
  refine s_alloc tk rfl rfl rfl (fun b4 hb4 => ?_); have hb := hb4; (try simp only [put_none_iff, prot_none_iff] at hb); (repeat obtain ⟨_, _, hb⟩ := hb)
  repeat first|(apply x1;apply r0;apply r0)|(apply x2;apply r0;(with_reducible repeat first|assumption|apply q0|apply q3);apply r0)|(apply x5;apply r0)|apply w4|apply w6|apply w7|apply w5
  refine aw_cond rfl (fun g1 => ?_) (fun g1 => ?_)<;>first|replace g1:=not_t g1|replace g1:=not_f g1
  · repeat first|(apply gO;first|(apply x1;apply r0;apply r0)|(apply x2;apply r0;(with_reducible repeat first|assumption|apply q0|apply ps|apply q3);apply r0)|(apply xst;apply r0;(with_reducible repeat first|assumption|apply q0|apply ps|apply q3);apply r0)|apply w4)|(apply gW;first|apply w6|apply w7|apply wd)|apply w5|apply we
    exact rt2c (H' := H) rfl rfl (by apply q0) rfl (by rfl) rfl (by exact .refl _) (by repeat first|exact s0|(apply su1;assumption)) (h0 (by first | exact .inl rfl | exact .inr g1))
  have hK := h1 hd g1
  rw [show encWR w (kn ++ [node]) = [.sc (.int .u8 w.how), .b true, .sl (encItms w.left) .no, .s w.last.path, .b w.last.op, .b w.last.fo, .b w.begun, .sl (encInts (kn ++ [node])) .no] from by unfold encWR encWRO; rw [hd]] at hK
  repeat first|(apply x1;apply r0;apply r0)|(apply x2;apply r0;(with_reducible repeat first|assumption|apply q0|apply q3);apply r0)|(apply x9;apply r0)|apply w6|apply w7|apply wa|apply w5
  refine rinl_c (by omega) ?_
  repeat first|(apply x1;apply r0;apply r0)|(apply x2;apply r0;(with_reducible repeat first|assumption|apply q0|apply q3);apply r0)|apply w4|apply w6|apply w7|apply w5
  have n24 : b2 ≠ b4 := by assumption
  have n34 : b3 ≠ b4 := by assumption
  have n23 : b2 ≠ b3 := by assumption
  have fb4 : H b4 = none := (put_none_iff.1 (put_none_iff.1 hb4).2.2).2.2
  have xs' : H.sub (((H.put b2 (.cells [.sc (.int .u8 w.how), .b true, .sl (encItms w.left) .no, .s w.last.path, .b w.last.op, .b w.last.fo, .b w.begun, .sl (encInts kn) .no])).put b3 (.cells (encStt node kind c3 c4 c5 c6 c7))).put b4 (.cells [.sc (.int .u8 0), .sc (.bool false), .sl [] .full, .sc (.string ⟨#[]⟩), .sc (.bool false), .sc (.bool false), .sc (.bool false), .sl [] .full])) := (by repeat first|exact s0|(apply su1;assumption))
  have z2 : (((H.put b2 (.cells [.sc (.int .u8 w.how), .b true, .sl (encItms w.left) .no, .s w.last.path, .b w.last.op, .b w.last.fo, .b w.begun, .sl (encInts kn) .no])).put b3 (.cells (encStt node kind c3 c4 c5 c6 c7))).put b4 (.cells [.sc (.int .u8 0), .sc (.bool false), .sl [] .full, .sc (.string ⟨#[]⟩), .sc (.bool false), .sc (.bool false), .sc (.bool false), .sl [] .full])) b2 = some (.cells [.sc (.int .u8 w.how), .b true, .sl (encItms w.left) .no, .s w.last.path, .b w.last.op, .b w.last.fo, .b w.begun, .sl (encInts kn) .no]) := by rw [put_ne n24, put_ne n23, put_same]
  have z3 : (((H.put b2 (.cells [.sc (.int .u8 w.how), .b true, .sl (encItms w.left) .no, .s w.last.path, .b w.last.op, .b w.last.fo, .b w.begun, .sl (encInts kn) .no])).put b3 (.cells (encStt node kind c3 c4 c5 c6 c7))).put b4 (.cells [.sc (.int .u8 0), .sc (.bool false), .sl [] .full, .sc (.string ⟨#[]⟩), .sc (.bool false), .sc (.bool false), .sc (.bool false), .sl [] .full])) b3 = some (.cells [.i node, .i kind, .i c3, .i c4, .i c5, .i c6, .i c7]) := by rw [put_ne n34, put_same]; rfl
  have z4 : (((H.put b2 (.cells [.sc (.int .u8 w.how), .b true, .sl (encItms w.left) .no, .s w.last.path, .b w.last.op, .b w.last.fo, .b w.begun, .sl (encInts kn) .no])).put b3 (.cells (encStt node kind c3 c4 c5 c6 c7))).put b4 (.cells [.sc (.int .u8 0), .sc (.bool false), .sl [] .full, .sc (.string ⟨#[]⟩), .sc (.bool false), .sc (.bool false), .sc (.bool false), .sl [] .full])) b4 = some (.cells [.sc (.int .u8 0), .sc (.bool false), .sl [] .full, .sc (.string ⟨#[]⟩), .sc (.bool false), .sc (.bool false), .sc (.bool false), .sl [] .full]) := put_same _ _ _
  generalize ((H.put b2 _).put b3 _).put b4 _ = X at xs' z2 z3 z4 ⊢
  have fb2 : H b2 = none := hb2
  have hm0 := OwnSt.full X
  refine s_append (xs := []) (o := .full) tk rfl rfl rfl rfl rfl (uni_nil _) (ints_uniW kn) (ints_flatW kn) trivial trivial (by simp only [List.length_nil]; omega) (fun o1 ha1 he1 => ?_)
  have hm1 := hm0.step ha1
  rw [List.nil_append]
  generalize (X.free .full).own o1 = Y at hm1 ⊢
  have yy2 := hm1.get z2
  have yy3 := hm1.get z3
  have yy4 := hm1.get z4
  repeat first|(apply x1;apply r0;apply r0)|(apply x2;apply r0;(with_reducible repeat exact q1 ‹_›);apply r0)|(apply xbs;apply r0)|apply w4|apply w6|apply w7|apply w5
  refine s_append (xs := encInts kn) (ys := [[.i node]]) tk rfl rfl rfl rfl rfl (ints_uniW kn) (ints_uniW1 node) rfl hm1.own he1 (by simp only [List.length_cons, List.length_nil]; omega) (fun o2 ha2 he2 => ?_)
  have hm2 := hm1.step ha2
  rw [ints_appW]
  generalize (Y.free o1).own o2 = Z at hm2 ⊢
  have w2' := hm2.get z2
  have w4' := hm2.get z4
  have hsz : H.sub Z := AHeap.sub_trans xs' hm2.sub
  repeat first|(apply gO;first|(apply x1;apply r0;apply r0)|(apply x2;apply r0;(with_reducible repeat first|assumption|apply q0|apply gp);apply r0)|(apply xst;apply r0;(with_reducible repeat first|assumption|apply q0|apply gp);apply r0)|apply w4)|(apply gW;first|apply w6|apply w7|apply wd)|apply w5
  exact rt2c (H' := H) rfl rfl (by apply q0) rfl (by rfl) rfl (.pair (by exact wk_agg rfl) (.refl _)) (by repeat first|assumption|(apply su1;assumption)) hK
end Abs
end Go.Proofs.Ytbldnaflffmddaa
