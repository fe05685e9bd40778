import Derived.Test.YtbldnaflffmddaaJK
import Derived.Test.YtbldnaflffmddaaJI
set_option linter.unusedVariables false
namespace Go.Proofs.Ytbldnaflffmddaa
namespace Abs
set_option linter.unusedSimpArgs false
set_option maxRecDepth 10000
set_option maxHeartbeats 2000000
attribute [local irreducible] AOps AW AP ACalls thenQ inBlk noGoto

/-! ### WalkReports -/
theorem clone_dgs {xs : List (List AVal)} {o : Own} {H : AHeap} {K : AVal → AHeap → Prop} (hu : Uni 2 xs) (hf : flatA xs.flatten = true) (hl : xs.length ≤ 100000) (hK : K (.sl xs .no) H) :
    ACalls Try.prog 44 [.sl xs o] H K := by
  refine acalls_body Try.func44 rfl rfl rfl ?_
  repeat first|(apply x1;apply r0;apply r0)|apply w4|apply w6|apply w7|apply w5
  refine s_slnil tk rfl rfl rfl (fun b hb => ?_)
  repeat first|apply w4|apply w5
  refine aw_cond rfl (fun h => ?_) (fun h => ?_)
  · have := hb h
    subst this
    repeat first|(apply x1;apply r0;apply r0)|apply w4|apply w6|apply w7|apply wd|apply w5|apply we
    exact rt1 rfl rfl (.sl _ _) (AHeap.sub_refl _) hK
  · repeat first|(apply x1;apply r0;apply r0)|(apply xbs;apply r0)|apply w6|apply w7|apply wa|apply w5
    refine s_append (xs := []) (o := .full) tk rfl rfl rfl rfl rfl (uni_nil _) hu hf trivial trivial (by simp only [List.length_nil]; omega) (fun o' h1 h2 => ?_)
    rw [List.nil_append]
    repeat first|(apply x1;apply r0;apply r0)|apply w4|apply wd|apply w5
    exact rt1 rfl rfl (.sl _ _) (sub_free h1 rfl) hK
theorem clone_strs {xs : List (List AVal)} {o : Own} {H : AHeap} {K : AVal → AHeap → Prop} (hu : Uni 1 xs) (hf : flatA xs.flatten = true) (hl : xs.length ≤ 100000) (hK : K (.sl xs .no) H) :
    ACalls Try.prog 45 [.sl xs o] H K := by
  refine acalls_body Try.func45 rfl rfl rfl ?_
  repeat first|(apply x1;apply r0;apply r0)|apply w4|apply w6|apply w7|apply w5
  refine s_slnil tk rfl rfl rfl (fun b hb => ?_)
  repeat first|apply w4|apply w5
  refine aw_cond rfl (fun h => ?_) (fun h => ?_)
  · have := hb h
    subst this
    repeat first|(apply x1;apply r0;apply r0)|apply w4|apply w6|apply w7|apply wd|apply w5|apply we
    exact rt1 rfl rfl (.sl _ _) (AHeap.sub_refl _) hK
  · repeat first|(apply x1;apply r0;apply r0)|(apply xbs;apply r0)|apply w6|apply w7|apply wa|apply w5
    refine s_append (xs := []) (o := .full) tk rfl rfl rfl rfl rfl (uni_nil _) hu hf trivial trivial (by simp only [List.length_nil]; omega) (fun o' h1 h2 => ?_)
    rw [List.nil_append]
    repeat first|(apply x1;apply r0;apply r0)|apply w4|apply wd|apply w5
    exact rt1 rfl rfl (.sl _ _) (sub_free h1 rfl) hK
theorem diags_c {b : Nat} {ds : List Dg} {ls : List (List AVal)} {o1 o2 : Own} {H : AHeap} (hc : H b = some (.cells [.sl (encDgs ds) o1, .sl ls o2])) (hl : ds.length ≤ 100000) {K : AVal → AHeap → Prop} (hK : K (.sl (encDgs ds) .no) H) :
    ACalls Try.prog 24 [.ptr b 0] H K := by
  refine acalls_body Try.func24 rfl rfl rfl ?_
  repeat first|(apply gO;first|(apply x1;apply r0;apply r0)|(apply x2;apply r0;(with_reducible repeat exact q1 ‹_›);apply r0)|(apply x9;apply r0)|apply w4)|(apply gW;first|apply w6|apply w7|(apply w9;apply r0)|apply wa)|apply w5
  refine clone_dgs (dgs_uni _) (flat_dgs _) (by rw [dgs_len]; exact hl) ?_
  repeat first|(apply x1;apply r0;apply r0)|apply w4|apply wd|apply w5
  exact rt1 rfl rfl (.refl _) (AHeap.sub_refl _) hK
theorem diags_nil {H : AHeap} {K : AVal → AHeap → Prop} (hK : K (.sl [] .no) H) : ACalls Try.prog 24 [.nilp] H K := by
  refine acalls_body Try.func24 rfl rfl rfl ?_
  repeat first|(apply gO;first|(apply x1;apply r0;apply r0)|apply w4)|(apply gW;first|apply w6|apply w7|(apply w8;apply r0)|apply wd)|apply w5|apply we
  exact rt1 rfl rfl (.sl _ _) (AHeap.sub_refl _) hK
theorem out_c {b : Nat} {ds : List (List AVal)} {ls : List ByteArray} {o1 o2 : Own} {H : AHeap} (hc : H b = some (.cells [.sl ds o1, .sl (encStrs ls) o2])) (hl : ls.length ≤ 100000) {K : AVal → AHeap → Prop} (hK : K (.sl (encStrs ls) .no) H) :
    ACalls Try.prog 26 [.ptr b 0] H K := by
  refine acalls_body Try.func26 rfl rfl rfl ?_
  repeat first|(apply gO;first|(apply x1;apply r0;apply r0)|(apply x2;apply r0;(with_reducible repeat exact q1 ‹_›);apply r0)|(apply x9;apply r0)|apply w4)|(apply gW;first|apply w6|apply w7|(apply w9;apply r0)|apply wa)|apply w5
  refine clone_strs (uni_strs _) (flat_strsW _) (by rw [strs_len]; exact hl) ?_
  repeat first|(apply x1;apply r0;apply r0)|apply w4|apply wd|apply w5
  exact rt1 rfl rfl (.refl _) (AHeap.sub_refl _) hK
theorem out_nil {H : AHeap} {K : AVal → AHeap → Prop} (hK : K (.sl [] .no) H) : ACalls Try.prog 26 [.nilp] H K := by
  refine acalls_body Try.func26 rfl rfl rfl ?_
  repeat first|(apply gO;first|(apply x1;apply r0;apply r0)|apply w4)|(apply gW;first|apply w6|apply w7|(apply w8;apply r0)|apply wd)|apply w5|apply we
  exact rt1 rfl rfl (.sl _ _) (AHeap.sub_refl _) hK
theorem status_c {b : Nat} {ds : List Dg} {ls : List (List AVal)} {o1 o2 : Own} {H : AHeap} (hc : H b = some (.cells [.sl (encDgs ds) o1, .sl ls o2])) (hl : ds.length ≤ 100000) {K : AVal → AHeap → Prop} (hK : K (.i (if ds.length = 0 then 0 else 1)) H) :
    ACalls Try.prog 21 [.ptr b 0] H K := by
  refine acalls_body Try.func21 rfl rfl rfl ?_
  repeat first|(apply x1;apply r0;apply r0)|(apply x9;apply r0)|apply w4|apply w6|apply w7|apply w5
  refine diags_c hc hl ?_
  repeat first|(apply x1;apply r0;apply r0)|apply w4|apply wd|apply w5
  refine rt1 (H' := H) rfl rfl ?_ (AHeap.sub_refl _) hK
  rw [show (if (1 : Int) < (((encDgs ds).length : Nat) : Int) then (1 : Int) else (((encDgs ds).length : Nat) : Int)) = if ds.length = 0 then 0 else 1 by rw [dgs_len]; split <;> split <;> omega]
  exact .refl _
theorem status_nil {H : AHeap} {K : AVal → AHeap → Prop} (hK : K (.i 0) H) : ACalls Try.prog 21 [.nilp] H K := by
  refine acalls_body Try.func21 rfl rfl rfl ?_
  repeat first|(apply x1;apply r0;apply r0)|(apply x9;apply r0)|apply w4|apply w6|apply w7|apply w5
  refine diags_nil ?_
  repeat first|(apply x1;apply r0;apply r0)|apply w4|apply wd|apply w5
  exact rt1 (H' := H) rfl rfl (.refl _) s0 hK
theorem short_c {l : List ByteArray} {o : Own} (hl : l.length ≤ 9223372036854775807) {H : AHeap} {K : AVal → AHeap → Prop} (hK : ∀ q : Bool, (q = true → l.length ≤ 20 ∧ ∀ s ∈ l, s.size ≤ 60) → K (.b q) H) : ACalls Try.prog 10 [.sl (encStrs l) o] H K := by
  refine acalls_body Try.func10 rfl rfl rfl ?_
  have ll := strs_len l
  repeat first|(apply x1;apply r0;apply r0)|apply w4|apply w6|apply w7|apply wb|apply w5
  refine aw_loop (fun k : Nat => k ≤ l.length ∧ ∀ j (h : j < l.length), j < k → l[j].size ≤ 60) (fun k => [(0, .sl (encStrs l) o), (3, .i k)]) (fun _ => H) (fun k => l.length - k) 0 ⟨Nat.zero_le _, fun j _ h => absurd h (Nat.not_lt_zero _)⟩ (by repeat (first | exact Fr.sub_nil _ | refine Fr.sub_cons rfl ?_)) (AHeap.sub_refl _) ?_
  rintro k ⟨hk, hall⟩
  repeat first|(apply x1;apply r0;apply r0)|apply w4|apply w6|apply w7|apply w5
  refine aw_cond rfl (fun c1 => ?_) (fun c1 => ?_)<;>first|replace c1:=of_decide_eq_true c1|replace c1:=of_decide_eq_false c1
  case refine_2 =>
    have hfew : ∀ r ∈ l, r.size ≤ 60 := fun r hr => by
      obtain ⟨j, hj, rfl⟩ := List.mem_iff_getElem.1 hr
      exact hall j hj (by omega)
    repeat first|(apply gO;first|(apply x1;apply r0;apply r0)|apply w4)|(apply gW;first|apply w6|apply w7|apply wd|apply wc)|apply w5|apply wf|apply wh
    exact rt1 (H' := H) rfl rfl (.refl _) s0 (hK _ (fun q => ⟨by have := of_decide_eq_true q; omega, hfew⟩))
  have c1' : k < l.length := by omega
  have hget := strs_get l k c1'
  repeat first|(apply x1;apply r0;apply r0)|apply w6|apply w7|apply wa|apply wb|apply w5
  refine s_index tk rfl rfl rfl rfl (by omega) hget rfl ?_
  repeat first|(apply x1;apply r0;apply r0)|(apply x3;apply r0)|apply w4|apply w5
  refine aw_cond rfl (fun c2 => ?_) (fun c2 => ?_)<;>first|replace c2:=of_decide_eq_true c2|replace c2:=of_decide_eq_false c2
  · repeat first|(apply gO;first|(apply x1;apply r0;apply r0)|apply w4)|(apply gW;first|apply w6|apply w7|apply wd)|apply w5|apply we|apply wj
    exact rt1 (H' := H) rfl rfl (.refl _) s0 (hK false (fun q => by cases q))
  repeat first|(apply x1;apply r0;apply r0)|apply w4|(apply x6;apply r0;omega)|apply w7|apply wa|apply w5|apply wg
  refine ⟨k + 1, ⟨c1', fun j hj hjk => ?_⟩, by omega, (by repeat (first | exact Fr.sub_nil _ | refine Fr.sub_cons rfl ?_)), s0⟩
  rcases Nat.lt_or_ge j k with h | h
  · exact hall j hj h
  · have : j = k := by omega
    subst this
    omega
theorem walkReports_c {fs : List Dg} {ls : List ByteArray} (hfs : fs.length ≤ 9223372036854775807) (hls : ls.length ≤ 9223372036854775807) {H : AHeap} {K : AVal → AHeap → Prop} (hK : K (.b true) H) :
    ACalls Try.prog 7 [.sl (encDgs fs) .no, .sl (encStrs ls) .no] H K := by
  refine acalls_body Try.func7 rfl rfl rfl ?_
  have lf := dgs_len fs
  have ll := strs_len ls
  repeat first|(apply x1;apply r0;apply r0)|(apply x9;apply r0)|apply w4|apply w6|apply w7|apply w5
  refine awake20_c ?_
  repeat first|(apply gO;first|(apply x1;apply r0;apply r0)|(apply x9;apply r0)|apply w4)|(apply gW;first|apply w6|apply w7|(apply w9;apply r0)|apply wa)|apply w5
  refine short_c hls (fun q hq => ?_)
  repeat first|(apply x1;apply r0;apply r0)|apply w4|apply w6|apply w7|apply w5
  refine s_gsplit rfl rfl (fun c1 => ?_) (fun c1 => ?_)
  · repeat first|(apply gO;first|(apply x1;apply r0;apply r0)|apply w4|(apply w3;apply r0;apply r0))|(apply gW;first|apply w6|apply w7|(apply w8;apply r0)|apply wd)|apply w5|apply we
    exact rt1 (H' := H) rfl rfl (.refl _) s0 hK
  obtain ⟨hl20, hl60⟩ := hq (by simpa using c1)
  repeat first|(apply x1;apply r0;apply r0)|(apply x5;apply r0)|apply w4|apply w5
  refine aw_cond rfl (fun c2 => ?_) (fun c2 => ?_)<;>first|replace c2:=of_decide_eq_true c2|replace c2:=of_decide_eq_false c2
  · repeat first|(apply x1;apply r0;apply r0)|apply w4|apply w6|apply w7|apply wd|apply w5|apply we
    exact rt1 (H' := H) rfl rfl (.refl _) s0 hK
  repeat first|(apply xbd;apply r0)|apply w6|apply w7|apply wa|apply w5
  refine s_box rfl rfl rfl (fun br hbr => ?_); have hb := hbr; (try simp only [put_none_iff, prot_none_iff] at hb); (repeat obtain ⟨_, _, hb⟩ := hb)
  have hm := RpSt.first hbr
  repeat first|(apply x1;apply r0;apply r0)|(apply x9;apply r0)|apply w4|apply w6|apply w7|apply w5
  refine status_c (ds := []) (put_same _ _ _) (Nat.zero_le _) ?_
  rw [show (if ([] : List Dg).length = 0 then (0 : Int) else 1) = 0 from rfl]
  repeat first|(apply x1;apply r0;apply r0)|(apply x5;apply r0)|(apply x9;apply r0)
  refine status_nil ?_
  repeat first|(apply gO;first|(apply x1;apply r0;apply r0)|(apply x5;apply r0)|apply w4)|(apply gW;first|apply w6|apply w7|(apply w9;apply r0)|apply wa|apply wb)|apply w5
  refine aw_loop (fun s : Nat × Own × AHeap => s.1 ≤ fs.length ∧ RpSt H s.2.2 br (encDgs (fs.take s.1)) [] s.2.1 .full ∧ ownEs 2 s.2.1) (fun s => [(0, .sl (encDgs fs) .no), (1, .sl (encStrs ls) .no), (7, .ptr br 0), (8, .nilp), (9, .i s.1)]) (fun s => s.2.2) (fun s => fs.length - s.1) (0, .full, H.put br (.cells [.sl [] .full, .sl [] .full])) ⟨Nat.zero_le _, hm, trivial⟩ (by repeat (first | exact Fr.sub_nil _ | refine Fr.sub_cons rfl ?_)) (AHeap.sub_refl _) ?_
  clear hm
  rintro ⟨k, o1, Y⟩ ⟨hk, hm, he1⟩
  dsimp only at hk hm he1 ⊢
  repeat first|(apply x1;apply r0;apply r0)|apply w4|apply w6|apply w7|apply w5
  refine aw_cond rfl (fun c3 => ?_) (fun c3 => ?_)<;>first|replace c3:=of_decide_eq_true c3|replace c3:=of_decide_eq_false c3
  · have c3' : k < fs.length := by omega
    have hget := dgs_get fs k c3'
    have hst : fs.take (k + 1) = fs.take k ++ [fs[k]] := by rw [List.take_add_one, List.getElem?_eq_getElem c3', Option.toList_some]
    generalize fs[k] = d at hget hst
    repeat first|apply w6|apply wa|apply wb|apply w5
    refine aw_plan mixed (.take 0 (.take 1 (.take 2 (.take 3 (.take 4 (.take 5 (.take 6 (.take 7 (.take 8 (.take 9 (.take 10 (.one 11 .done)))))))))))) (by kernel_rfl) ?_
    repeat (apply y1;apply r0;apply r0)
    refine d_index rfl rfl rfl rfl rfl rfl (by omega) hget rfl ?_
    repeat first|(apply y1;apply r0;apply r0)|(apply y3;apply r0;apply r0)
    refine d_index rfl rfl rfl rfl rfl rfl (by omega) hget rfl ?_
    repeat first|(apply x9;apply r0)|(apply y1;apply r0;apply r0)|(apply y4;apply r0)|(apply y3;apply r0;apply r0)
    refine fail_c hm he1 (by rw [List.length_take]; omega) (fun Z o' hm2 he2 => ?_)
    rw [show fs.take k ++ [⟨d.path, d.err⟩] = fs.take (k + 1) from hst.symm] at hm2
    repeat first|apply w4|apply y0|apply w5
    skip
    refine aw_plan mixed (.take 0 (.take 1 (.take 2 (.take 3 (.take 4 (.take 5 (.take 6 (.take 7 (.take 8 (.take 9 (.take 10 (.one 11 .done)))))))))))) (by kernel_rfl) ?_
    repeat (apply y1;apply r0;apply r0)
    refine d_index rfl rfl rfl rfl rfl rfl (by omega) hget rfl ?_
    repeat first|(apply y1;apply r0;apply r0)|(apply y3;apply r0;apply r0)
    refine d_index rfl rfl rfl rfl rfl rfl (by omega) hget rfl ?_
    repeat first|(apply x9;apply r0)|(apply y1;apply r0;apply r0)|(apply y4;apply r0)|(apply y3;apply r0;apply r0)
    refine fail_nil ?_
    repeat first|(apply x1;apply r0;apply r0)|apply w4|(apply x6;apply r0;omega)|apply y0|apply w7|apply w5|apply wg
    skip
    exact ⟨(k + 1, o', Z), ⟨c3', hm2, he2⟩, by dsimp only; omega, (by repeat (first | exact Fr.sub_nil _ | refine Fr.sub_cons rfl ?_)), AHeap.sub_refl _⟩
  have hke : k = fs.length := by omega
  subst hke
  rw [List.take_length] at hm
  clear c3 hk
  repeat first|(apply gO;first|(apply x1;apply r0;apply r0)|apply w4)|(apply gW;first|apply w6|apply w7|apply wb|apply wc)|apply w5|apply wf|apply wh
  refine aw_loop (fun s : Nat × Own × AHeap => s.1 ≤ ls.length ∧ RpSt H s.2.2 br (encDgs fs) (encStrs (ls.take s.1)) o1 s.2.1 ∧ ownEs 1 s.2.1) (fun s => [(0, .sl (encDgs fs) .no), (1, .sl (encStrs ls) .no), (7, .ptr br 0), (8, .nilp), (10, .i s.1)]) (fun s => s.2.2) (fun s => ls.length - s.1) (0, .full, Y) ⟨Nat.zero_le _, hm, trivial⟩ (by repeat (first | exact Fr.sub_nil _ | refine Fr.sub_cons rfl ?_)) (AHeap.sub_refl _) ?_
  clear hm
  rintro ⟨k, o2, Y⟩ ⟨hk, hm, he2⟩
  dsimp only at hk hm he2 ⊢
  repeat first|(apply x1;apply r0;apply r0)|apply w4|apply w6|apply w7|apply w5
  refine aw_cond rfl (fun c4 => ?_) (fun c4 => ?_)<;>first|replace c4:=of_decide_eq_true c4|replace c4:=of_decide_eq_false c4
  · have c4' : k < ls.length := by omega
    have hget := strs_get ls k c4'
    have hst : ls.take (k + 1) = ls.take k ++ [ls[k]] := by rw [List.take_add_one, List.getElem?_eq_getElem c4', Option.toList_some]
    generalize ls[k] = d at hget hst
    repeat first|(apply x1;apply r0;apply r0)|apply w6|apply w7|apply wa|apply wb|apply w5
    refine s_index tk rfl rfl rfl rfl (by omega) hget rfl ?_
    repeat first|(apply x3;apply r0)|(apply x9;apply r0)
    refine print_c hm he2 (by rw [List.length_take]; omega) (fun Z o' hm2 he3 => ?_)
    rw [← hst] at hm2
    repeat first|(apply x1;apply r0;apply r0)|apply w4|apply w7|apply w5
    refine s_index tk rfl rfl rfl rfl (by omega) hget rfl ?_
    repeat first|(apply x3;apply r0)|(apply x9;apply r0)
    refine print_nil ?_
    repeat first|(apply x1;apply r0;apply r0)|apply w4|(apply x6;apply r0;omega)|apply w7|apply w5|apply wg
    exact ⟨(k + 1, o', Z), ⟨c4', hm2, he3⟩, by dsimp only; omega, (by repeat (first | exact Fr.sub_nil _ | refine Fr.sub_cons rfl ?_)), AHeap.sub_refl _⟩
  have hke : k = ls.length := by omega
  subst hke
  rw [List.take_length] at hm
  have hc := hm.cell
  have hsub := hm.st.sub
  repeat first|(apply gO;first|(apply x1;apply r0;apply r0)|(apply x9;apply r0))|(apply gW;first|apply w6|apply w7|apply wc)|apply w5|apply wf|apply wh
  refine diags_c hc (by omega) ?_
  repeat first|(apply x1;apply r0;apply r0)|apply w4|apply w6|apply w7|apply w5
  refine s_gsplit rfl rfl (fun v1 => ?_) (fun v1 => ?_)<;>first|replace v1:=not_t v1|replace v1:=not_f v1
  · exact absurd rfl v1
  repeat first|(apply x1;apply r0;apply r0)|(apply x5;apply r0)|(apply x9;apply r0)
  refine out_c hc (by omega) ?_
  repeat first|(apply x1;apply r0;apply r0)|(apply x5;apply r0)|(apply x9;apply r0)
  refine rsames_c (by omega) ?_
  rw [decide_eq_true (rfl : ls = ls)]
  repeat first|(apply x1;apply r0;apply r0)|(apply x5;apply r0)|(apply x9;apply r0)
  by_cases hz : fs.length = 0
  · obtain rfl : fs = [] := List.length_eq_zero_iff.1 hz
    refine status_c hc (by omega) ?_
    rw [show (if ([] : List Dg).length = 0 then (0 : Int) else 1) = 0 from rfl]
    repeat first|(apply x1;apply r0;apply r0)|(apply x5;apply r0)|(apply x9;apply r0)
    refine status_c hc (by omega) ?_
    rw [show (if ([] : List Dg).length = 0 then (0 : Int) else 1) = 0 from rfl]
    repeat first|(apply x1;apply r0;apply r0)|(apply x5;apply r0)|(apply x9;apply r0)
    refine status_c hc (by omega) ?_
    rw [show (if ([] : List Dg).length = 0 then (0 : Int) else 1) = 0 from rfl]
    repeat first|(apply gO;first|(apply x1;apply r0;apply r0)|(apply x5;apply r0)|apply w4)|(apply gW;first|apply w6|apply w7|(apply w9;apply r0)|apply wa|apply wb)|apply w5
    refine aw_loop (fun k : Nat => k = 0) (fun k => [(0, .sl (encDgs []) .no), (8, .nilp), (11, .sl (encDgs []) .no), (12, .i k)]) (fun _ => Y) (fun k => 0) 0 rfl (by repeat (first | exact Fr.sub_nil _ | refine Fr.sub_cons rfl ?_)) (AHeap.sub_refl _) ?_
    rintro k rfl
    repeat first|(apply gO;first|(apply x1;apply r0;apply r0)|(apply x9;apply r0)|apply w4)|(apply gW;first|apply w6|apply w7|(apply w9;apply r0)|apply wc)|apply w5|apply wf|apply wh
    refine status_nil ?_
    repeat first|(apply x1;apply r0;apply r0)|(apply x5;apply r0)|(apply x9;apply r0)
    refine diags_nil ?_
    repeat first|(apply x1;apply r0;apply r0)|(apply x5;apply r0)|(apply x9;apply r0)
    refine out_nil ?_
    repeat first|(apply x1;apply r0;apply r0)|(apply x5;apply r0)|apply w4|apply wd|apply w5
    exact rt1 (H' := H) rfl rfl (.refl _) (by repeat assumption) hK
  · refine status_c hc (by omega) ?_
    rw [if_neg hz]
    repeat first|(apply x1;apply r0;apply r0)|(apply x5;apply r0)
    refine s_gsplit rfl rfl (fun v2 => ?_) (fun v2 => ?_)<;>first|replace v2:=not_t v2|replace v2:=not_f v2
    · exact absurd (by rw [decide_eq_true (show (1 : Int) = 1 from rfl), decide_eq_true (show (0 : Int) < (((encDgs fs).length : Nat) : Int) by omega)]) v2
    repeat first|(apply x1;apply r0;apply r0)|(apply x5;apply r0)|(apply x9;apply r0)
    refine status_c hc (by omega) ?_
    rw [if_neg hz]
    repeat first|(apply x1;apply r0;apply r0)|(apply x5;apply r0)|(apply x9;apply r0)
    refine status_c hc (by omega) ?_
    rw [if_neg hz]
    repeat first|(apply gO;first|(apply x1;apply r0;apply r0)|(apply x5;apply r0)|apply w4)|(apply gW;first|apply w6|apply w7|(apply w9;apply r0)|apply wa|apply wb)|apply w5
    refine aw_loop (fun k : Nat => k ≤ fs.length) (fun k => [(0, .sl (encDgs fs) .no), (8, .nilp), (11, .sl (encDgs fs) .no), (12, .i k)]) (fun _ => Y) (fun k => fs.length - k) 0 (Nat.zero_le _) (by repeat (first | exact Fr.sub_nil _ | refine Fr.sub_cons rfl ?_)) (AHeap.sub_refl _) ?_
    intro k hk
    repeat first|(apply x1;apply r0;apply r0)|apply w4|apply w6|apply w7|apply w5
    refine aw_cond rfl (fun c5 => ?_) (fun c5 => ?_)<;>first|replace c5:=of_decide_eq_true c5|replace c5:=of_decide_eq_false c5
    · have c5' : k < fs.length := by omega
      have hget := dgs_get fs k c5'
      generalize fs[k] = d at hget
      repeat first|apply w6|apply wa|apply wb|apply w5
      refine aw_plan mixed (.take 0 (.take 1 (.take 2 (.take 3 (.take 4 (.take 5 (.take 6 (.take 7 (.take 8 .done))))))))) (by kernel_rfl) ?_
      repeat (apply y1;apply r0;apply r0)
      refine d_index rfl rfl rfl rfl rfl rfl (by omega) hget rfl ?_
      repeat first|(apply y1;apply r0;apply r0)|(apply y3;apply r0;apply r0)
      refine d_index rfl rfl rfl rfl rfl rfl (by omega) hget rfl ?_
      repeat (apply y3;apply r0;apply r0)
      refine d_stab rfl rfl rfl (pures_eqagg (r := decide (d.path = d.path) && (decide (d.err = d.err) && true)) tk (.inr rfl) rfl rfl rfl (by kernel_rfl) rfl).stab ?_
      rw [decide_eq_true (rfl : d.path = d.path), decide_eq_true (rfl : d.err = d.err)]
      repeat first|(apply gO;first|(apply x1;apply r0;apply r0)|apply w4|(apply x6;apply r0;omega))|apply y0|(apply gW;first|apply w7|(apply w9;apply r0)|apply wa)|apply w5|apply wg
      skip
      exact ⟨k + 1, c5', by omega, (by repeat (first | exact Fr.sub_nil _ | refine Fr.sub_cons rfl ?_)), AHeap.sub_refl _⟩
    repeat first|(apply gO;first|(apply x1;apply r0;apply r0)|(apply x9;apply r0))|(apply gW;first|apply w6|apply w7|apply wc)|apply w5|apply wf|apply wh
    refine status_nil ?_
    repeat first|(apply x1;apply r0;apply r0)|(apply x5;apply r0)|(apply x9;apply r0)
    refine diags_nil ?_
    repeat first|(apply x1;apply r0;apply r0)|(apply x5;apply r0)|(apply x9;apply r0)
    refine out_nil ?_
    repeat first|(apply x1;apply r0;apply r0)|(apply x5;apply r0)|apply w4|apply wd|apply w5
    exact rt1 (H' := H) rfl rfl (.refl _) (by repeat assumption) hK
end Abs
end Go.Proofs.Ytbldnaflffmddaa
