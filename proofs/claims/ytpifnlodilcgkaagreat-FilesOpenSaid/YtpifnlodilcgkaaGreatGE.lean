import Derived.Test.YtpifnlodilcgkaaGreatGB
import Derived.Test.YtpifnlodilcgkaaGreatM1
import Derived.Test.YtpifnlodilcgkaaGreatZ1
set_option linter.unusedVariables false
namespace Go.Proofs.YtpifnlodilcgkaaGreat
namespace Abs
theorem free_zero {T : Tab} (hg : T.good) {k : Nat} (hf : T.free = some k) : ∃ h : k < T.nodes.length, T.nodes[k] = Node.zero := by
  obtain ⟨h1, h2⟩ := free_spec hf
  have hl := hg.wf.1
  have hr := hg.wf.2.1
  have hk : k < T.nodes.length := by omega
  refine ⟨hk, ?_⟩
  rcases hg.clean _ (List.getElem_mem hk) with h | h
  · exact h
  · have hkd := ok_kind h
    unfold Tab.has at h2
    rw [show ((k : Int) + 1 - 1).toNat = k by omega, List.getD_eq_getElem?_getD, List.getElem?_eq_getElem hk, Option.getD_some, decide_eq_true (show (1 : Int) ≤ (k : Int) + 1 by omega), decide_eq_true (show (k : Int) + 1 ≤ T.room by omega), decide_eq_false hkd] at h2
    cases h2
theorem add_has {T : Tab} (hg : T.good) {k : Nat} (hf : T.free = some k) {n : Node} (hok : nodeOk n = true) : (T.put k n).has ((k : Int) + 1) = true ∧ ∀ i, T.has i = true → (T.put k n).has i = true ∧ i ≠ (k : Int) + 1 ∧ (T.put k n).at i = T.at i := by
  obtain ⟨h1, h2⟩ := free_spec hf
  have hk : k < 24 := by have := hg.wf.2.1; omega
  have ha := at_put hg h1 (.inr hok)
  refine ⟨has_kind'.2 ?_, fun i hi => ?_⟩
  · rw [ha, if_pos rfl]; exact ok_kind hok
  · have hne : i ≠ (k : Int) + 1 := fun e => by rw [e, h2] at hi; cases hi
    have e : (T.put k n).at i = T.at i := by rw [ha, if_neg hne]
    exact ⟨has_kind'.2 (by rw [e]; exact has_kind'.1 hi), hne, e⟩
theorem drop_add {T : Tab} (hg : T.good) {k : Nat} (hf : T.free = some k) {n : Node} (hok : nodeOk n = true) : ((T.put k n).dropE ((k : Int) + 1)).1 = T := by
  obtain ⟨hk, hz⟩ := free_zero hg hf
  unfold Tab.dropE
  rw [if_pos (add_has hg hf hok).1, show ((k : Int) + 1 - 1).toNat = k by omega]
  show (T.put k n).put k Node.zero = T
  have e : (T.put k n).put k Node.zero = T.put k Node.zero := by
    unfold Tab.put; simp
  rw [e, ← hz, put_self]
theorem can_has {T : Tab} {c : Cred} {i w : Int} (h : T.can c i w = true) : T.has i = true := by
  unfold Tab.can at h
  simp only [Bool.and_eq_true] at h
  exact h.1
end Abs
end Go.Proofs.YtpifnlodilcgkaaGreat

set_option linter.unusedVariables false
namespace Go.Proofs.YtpifnlodilcgkaaGreat
namespace Abs
set_option linter.unusedSimpArgs false
set_option maxRecDepth 10000
set_option maxHeartbeats 2000000
attribute [local irreducible] AOps AW AP ACalls thenQ inBlk noGoto

theorem wkFour {a b c d d' : AVal} (h : Wk d d') : Wk (.tup [a, b, c, d]) (.tup [a, b, c, d']) := .tup rfl (fun j h1 h2 => match j with | 0 => .refl _ | 1 => .refl _ | 2 => .refl _ | 3 => h)
theorem Wk.three {a a' b c : AVal} (h : Wk a a') : Wk (.tup [a, b, c]) (.tup [a', b, c]) := .tup rfl (fun j h1 h2 => match j with | 0 => h | 1 => .refl _ | 2 => .refl _)
theorem rplant_c {T : Tab} {L : List Node} (ht : Tells T L) (hlen : L.length = T.room.toNat) {c : Cred} (hc : c.small) {r : Found × Int} (hr0 : r.2 = 0) (hrn : r.1.name.size ≤ 12) {n0 : Node} (hk2 : ¬ n0.kind = 2) (hnl : n0.nlen) {H : AHeap} {K : AVal → AHeap → Prop}
    (hK : ∀ M, Tells (T.plant c r (fun _ => n0)).1 M → K (.tup [.agg (encT M), .i (T.plant c r (fun _ => n0)).2.1, .i (T.plant c r (fun _ => n0)).2.2]) H) :
    ACalls Tryz.prog 46 [.agg (encT L), .agg (encCred c), .agg (encF r.1), .agg (encM n0)] H K := by
  refine acalls_body Tryz.func46 rfl rfl rfl ?_
  have hll : L.length ≤ 1000 := Nat.le_trans ht.rel.most (by decide)
  have hroom := ht.good.wf.2.1
  have hlenI : (L.length : Int) = T.room := by omega
  have hn1 : r.1.name.size < 4294967281 := Nat.lt_of_le_of_lt hrn (by decide)
  have hn2 : r.1.name.size ≤ 40 := Nat.le_trans hrn (by decide)
  unfold Tab.plant at hK
  rw [if_neg (fun q => q hr0)] at hK
  repeat first|apply w6|apply w7
  refine s_box rfl rfl rfl (fun b4 hb4 => ?_); have hb := hb4; (try simp only [put_none_iff, prot_none_iff] at hb); (repeat obtain ⟨_, _, hb⟩ := hb)
  skip
  refine s_box rfl rfl rfl (fun b5 hb5 => ?_); have hb := hb5; (try simp only [put_none_iff, prot_none_iff] at hb); (repeat obtain ⟨_, _, hb⟩ := hb)
  skip
  refine s_box rfl rfl rfl (fun b6 hb6 => ?_); have hb := hb6; (try simp only [put_none_iff, prot_none_iff] at hb); (repeat obtain ⟨_, _, hb⟩ := hb)
  skip
  refine s_box rfl rfl rfl (fun b7 hb7 => ?_); have hb := hb7; (try simp only [put_none_iff, prot_none_iff] at hb); (repeat obtain ⟨_, _, hb⟩ := hb)
  skip
  refine s_alloc tk rfl rfl rfl (fun b8 hb8 => ?_); have hb := hb8; (try simp only [put_none_iff, prot_none_iff] at hb); (repeat obtain ⟨_, _, hb⟩ := hb)
  repeat first|(apply x1;apply r0;apply r0)|(apply x2;apply r0;(with_reducible repeat first|assumption|apply q0|apply q3);apply r0)|apply w4|apply w6|apply w7|apply w5
  refine aw_cond rfl (fun g2 => ?_) (fun g2 => ?_)<;>first|replace g2:=not_t g2|replace g2:=not_f g2
  · rw [if_pos g2] at hK
    repeat first|(apply gO;first|(apply x1;apply r0;apply r0)|(apply x2;apply r0;(with_reducible repeat first|assumption|apply q0|apply ps|apply q3);apply r0)|(apply xst;apply r0;(with_reducible repeat first|assumption|apply q0|apply ps|apply q3);apply r0)|apply w4)|(apply gW;first|apply w6|apply w7|apply wd)|apply w5|apply we
    exact rt3c (H' := H) rfl rfl (by apply q0) rfl (by rfl) rfl rfl (by exact Wk.three (wk_agg rfl)) (by repeat first|exact s0|(apply su1;assumption)) (hK L ht)
  have g2' : r.1.node = 0 := g2
  rw [if_neg (fun q => q g2')] at hK
  repeat first|(apply x1;apply r0;apply r0)|(apply x2;apply r0;(with_reducible repeat first|assumption|apply q0|apply q3);apply r0)|(apply x9;apply r0)|apply w6|apply w7|apply wa|apply w5
  refine rcan1_c ht hc ⟨by decide, by decide⟩ ?_
  cases hcan : T.can c r.1.dir 3 with
  | false =>
    rw [hcan, if_pos rfl] at hK
    repeat first|(apply gO;first|(apply x1;apply r0;apply r0)|(apply x2;apply r0;(with_reducible repeat first|assumption|apply q0|apply ps|apply q3);apply r0)|(apply xst;apply r0;(with_reducible repeat first|assumption|apply q0|apply ps|apply q3);apply r0)|apply w4)|(apply gW;first|apply w6|apply w7|(apply w8;apply r0)|apply wd)|apply w5|apply we
    exact rt3c (H' := H) rfl rfl (by apply q0) rfl (by rfl) rfl rfl (by exact Wk.three (wk_agg rfl)) (by repeat first|exact s0|(apply su1;assumption)) (hK L ht)
  | true =>
    rw [hcan, if_neg (by decide)] at hK
    have hdh := can_has hcan
    have hmd := at_mode ht.good r.1.dir
    have hdf := at_few ht.good r.1.dir
    have hds := hdf.small
    have hdn := few_nlen hdf
    repeat first|(apply gO;first|(apply x1;apply r0;apply r0)|(apply x2;apply r0;(with_reducible repeat first|assumption|apply q0|apply q3);apply r0)|(apply x9;apply r0)|apply w4)|(apply gW;first|apply w6|apply w7|(apply w9;apply r0)|apply wa)|apply w5
    refine rget_c (by omega) ?_
    rw [ht.get]
    generalize hd0 : T.at r.1.dir = d at hK hmd hdf hds hdn ⊢
    skip
    refine s_alloc tk rfl rfl rfl (fun b12 hb12 => ?_); have hb := hb12; (try simp only [put_none_iff, prot_none_iff] at hb); (repeat obtain ⟨_, _, hb⟩ := hb)
    repeat first|(apply xst;apply r0;(apply ps);apply r0)|apply w4|apply w6|apply w5
    refine aw_prot [b4, b12] (allc (by with_reducible repeat first|assumption|apply q0|apply q3) (allc (by apply q0) (allc0 _))) ?_
    refine aw_plan mixed (.take 0 (.take 1 (.take 2 (.take 3 (.take 4 (.take 5 (.take 7 (.take 8 (.take 9 (.one 6 (.take 10 (.take 11 .done)))))))))))) (by kernel_rfl) ?_
    have hnm := names_len d.ents
    repeat first|(apply y1;apply r0;apply r0)|(apply y2;apply r0;apply r0;(with_reducible repeat first|apply q0|apply pg|exact mm0|apply mm1);apply r0)
    refine d_split rfl rfl rfl (fun g4 => ?_) (fun g4 => ?_)<;>first|replace g4:=of_decide_eq_true g4|replace g4:=of_decide_eq_false g4
    · rw [hnm] at g4
      rw [if_pos g4] at hK
      repeat first|(apply y1;apply r0;apply r0)|apply y0|(apply take1_ok;apply r0)|(apply skip1_ok;apply r0)
      refine prot_done ?_
      repeat first|(apply gO;first|(apply x1;apply r0;apply r0)|(apply x2;apply r0;(with_reducible repeat first|assumption|apply q0|apply ps|apply q3|apply gp);apply r0)|(apply xst;apply r0;(with_reducible repeat first|assumption|apply q0|apply ps|apply q3|apply gp);apply r0)|apply w4)|(apply gW;first|apply w6|apply w7|(apply w8;apply r0)|apply wd)|apply w5|apply we
      exact rt3c (H' := H) rfl rfl (by apply q0) rfl (by rfl) rfl rfl (by exact Wk.three (wk_agg rfl)) (by repeat first|exact s0|(apply su1;assumption)) (hK L ht)
    rw [hnm] at g4
    rw [if_neg g4] at hK
    repeat first|(apply x5;apply r0)|(apply x9;apply r0)|(apply take1_ok;apply r0)|(apply y4;apply r0)|(apply y2;apply r0;apply r0;(with_reducible repeat first|assumption|apply q0|apply pg|apply q3|exact mm0);apply r0)
    refine rused_c hll ?_
    rw [l_used ht.good.wf ht.rel]
    have hml := ms_len L
    repeat first|apply w4|(apply y1;apply r0;apply r0)|apply y0|(apply take1_ok;apply r0)
    refine prot_done ?_
    repeat apply w5
    refine aw_cond rfl (fun g5 => ?_) (fun g5 => ?_)<;>first|replace g5:=of_decide_eq_true g5|replace g5:=of_decide_eq_false g5
    · rw [hml, hlenI] at g5
      rw [if_pos (show T.used = T.room from g5)] at hK
      repeat first|(apply gO;first|(apply x1;apply r0;apply r0)|(apply x2;apply r0;(with_reducible repeat first|assumption|apply q0|apply ps|apply q3|apply gp);apply r0)|(apply xst;apply r0;(with_reducible repeat first|assumption|apply q0|apply ps|apply q3|apply gp);apply r0)|apply w4)|(apply gW;first|apply w6|apply w7|apply wd)|apply w5|apply we
      exact rt3c (H' := H) rfl rfl (by apply q0) rfl (by rfl) rfl rfl (by exact Wk.three (wk_agg rfl)) (by repeat first|exact s0|(apply su1;assumption)) (hK L ht)
    rw [hml, hlenI] at g5
    rw [if_neg (show ¬ T.used = T.room from g5)] at hK
    repeat first|(apply gO;first|(apply x1;apply r0;apply r0)|(apply x2;apply r0;(with_reducible repeat first|assumption|apply q0|apply ps|apply q3|apply gp);apply r0)|(apply xst;apply r0;(with_reducible repeat first|assumption|apply q0|apply ps|apply q3|apply gp);apply r0)|(apply x9;apply r0)|apply w4)|(apply gW;first|apply w6|apply w7|apply wa)|apply w5
    refine bit_c (k := 10) rfl (by decide) ⟨hmd.1, by omega⟩ ?_
    repeat first|apply w4|apply w5
    refine aw_cond rfl (fun g3 => ?_) (fun g3 => ?_)<;>first|replace g3:=of_decide_eq_true g3|replace g3:=of_decide_eq_false g3
    · have hsg : (if sgid d.mode then d.gid else c.gid) = d.gid := if_pos ((sgid_iff hmd).2 g3)
      repeat first|(apply x1;apply r0;apply r0)|(apply x2;apply r0;(with_reducible repeat first|assumption|apply q0|apply ps|apply q3);apply r0)|(apply xst;apply r0;(with_reducible repeat first|assumption|apply q0|apply ps|apply q3);apply r0)|apply w4|apply w6|apply w7|apply w5
      refine aw_cond rfl (fun g8 => ?_) (fun g8 => ?_)<;>first|replace g8:=of_decide_eq_true g8|replace g8:=of_decide_eq_false g8
      · exact absurd g8 hk2
      have hma : T.add { n0 with uid := c.uid, gid := d.gid } = T.add (madeIn c d n0) := by unfold madeIn; rw [hsg]
      have hsame : nodeOk { n0 with uid := c.uid, gid := d.gid } = nodeOk (madeIn c d n0) := by unfold madeIn; rw [hsg]
      repeat first|(apply x2;apply r0;(with_reducible repeat first|assumption|apply q0|apply q3);apply r0)|(apply x9;apply r0)|apply w6|apply w7|apply wa|apply w5
      refine radd2_c ht hlen (n := { n0 with uid := c.uid, gid := d.gid }) hnl (fun M hM hMl => ?_)
      rw [hma] at hM ⊢
      rcases add_cases T (madeIn c d n0) with ⟨k, hf, hok, ha⟩ | ⟨hf, hok, ha⟩ | ⟨hok, ha⟩
      · rw [ha] at hK hM ⊢
        rw [if_neg (fun q => q rfl)] at hK
        repeat (apply x1;apply r0;apply r0)
        refine s_alloc tk rfl rfl rfl (fun b13 hb13 => ?_); have hb := hb13; (try simp only [put_none_iff, prot_none_iff] at hb); (repeat obtain ⟨_, _, hb⟩ := hb)
        repeat first|(apply gO;first|(apply x1;apply r0;apply r0)|(apply x2;apply r0;(with_reducible repeat first|assumption|apply q0|apply ps|apply q3);apply r0)|(apply xst;apply r0;(with_reducible repeat first|assumption|apply q0|apply ps|apply q3);apply r0)|(apply x9;apply r0)|apply w4)|(apply gW;first|apply w6|apply w7|(apply w9;apply r0)|apply wa)|apply w5
        refine rnwith_c hds hdn hn1 ?_
        rw [rwith_eq]
        have hws := withN_sizes hdf (name := r.1.name) hn2 ((k : Int) + 1)
        obtain ⟨j1, j2⟩ := add_has ht.good hf hok
        obtain ⟨j3, j4, j5⟩ := j2 r.1.dir hdh
        have hpw := fun he => put_with (T := T.put k (madeIn c d n0)) (put_good ht.good (.inr hok) k) (p := r.1.dir) j3 (name := r.1.name) (id := (k : Int) + 1) he
        rw [j5, hd0] at hpw
        simp only at hK
        generalize hwe : d.withE r.1.name ((k : Int) + 1) = ze at hK hpw ⊢
        generalize hwn : d.withN r.1.name ((k : Int) + 1) = zn at hK hpw hws ⊢
        repeat first|(apply x1;apply r0;apply r0)|(apply xst;apply r0;(with_reducible repeat first|assumption|apply ps|apply gp);apply r0)|apply w4|apply w6|apply w7|apply w5
        refine aw_cond rfl (fun g7 => ?_) (fun g7 => ?_)<;>first|replace g7:=not_t g7|replace g7:=not_f g7
        · rw [if_pos g7, drop_add ht.good hf hok] at hK
          repeat first|(apply gO;first|(apply x1;apply r0;apply r0)|(apply x2;apply r0;(with_reducible repeat first|assumption|apply q0|apply ps|apply q3|apply gp);apply r0)|(apply xst;apply r0;(with_reducible repeat first|assumption|apply q0|apply ps|apply q3|apply gp);apply r0)|apply w4)|(apply gW;first|apply w6|apply w7|apply wd)|apply w5|apply we
          exact rt3c (H' := H) rfl rfl (by apply q0) rfl (by rfl) rfl rfl (by exact Wk.three (wk_agg rfl)) (by repeat first|exact s0|(apply su1;assumption)) (hK L ht)
        have g7' : ze = 0 := g7
        obtain ⟨q1, q2, -⟩ := hpw g7'
        rw [if_neg (fun q => q g7'), q1] at hK
        have htp := tells_put hM j3 (.inr q2)
        have hrng := tells_rng hM j3
        repeat first|(apply x1;apply r0;apply r0)|(apply x2;apply r0;(with_reducible repeat first|assumption|apply q0|apply q3);apply r0)|(apply x9;apply r0)|apply w6|apply w7|apply wa|apply w5
        refine rwith_c (n := zn) hrng (Nat.le_trans hM.rel.most (by decide)) ?_
        repeat first|(apply x1;apply r0;apply r0)|(apply xst;apply r0;(with_reducible repeat first|assumption|apply ps|apply gp);apply r0)|apply w4|apply wd|apply w5
        exact rt3c (H' := H) rfl rfl (by apply q0) rfl (by rfl) rfl rfl (by exact Wk.three (wk_agg rfl)) (by repeat first|exact s0|(apply su1;assumption)) (hK _ htp)
      · rw [ha] at hK ⊢
        rw [if_pos (show ¬ (28 : Int) = 0 by decide)] at hK
        repeat (apply x1;apply r0;apply r0)
        refine s_alloc tk rfl rfl rfl (fun b13 hb13 => ?_); have hb := hb13; (try simp only [put_none_iff, prot_none_iff] at hb); (repeat obtain ⟨_, _, hb⟩ := hb)
        repeat first|(apply gO;first|(apply x1;apply r0;apply r0)|(apply x2;apply r0;(with_reducible repeat first|assumption|apply q0|apply ps|apply q3|apply gp);apply r0)|(apply xst;apply r0;(with_reducible repeat first|assumption|apply q0|apply ps|apply q3|apply gp);apply r0)|apply w4)|(apply gW;first|apply w6|apply w7|(apply w8;apply r0)|apply wd)|apply w5|apply we
        exact rt3c (H' := H) rfl rfl (by apply q0) rfl (by rfl) rfl rfl (by exact Wk.three (wk_agg rfl)) (by repeat first|exact s0|(apply su1;assumption)) (hK L ht)
      · rw [ha] at hK ⊢
        rw [if_pos (show ¬ (22 : Int) = 0 by decide)] at hK
        repeat (apply x1;apply r0;apply r0)
        refine s_alloc tk rfl rfl rfl (fun b13 hb13 => ?_); have hb := hb13; (try simp only [put_none_iff, prot_none_iff] at hb); (repeat obtain ⟨_, _, hb⟩ := hb)
        repeat first|(apply gO;first|(apply x1;apply r0;apply r0)|(apply x2;apply r0;(with_reducible repeat first|assumption|apply q0|apply ps|apply q3|apply gp);apply r0)|(apply xst;apply r0;(with_reducible repeat first|assumption|apply q0|apply ps|apply q3|apply gp);apply r0)|apply w4)|(apply gW;first|apply w6|apply w7|(apply w8;apply r0)|apply wd)|apply w5|apply we
        exact rt3c (H' := H) rfl rfl (by apply q0) rfl (by rfl) rfl rfl (by exact Wk.three (wk_agg rfl)) (by repeat first|exact s0|(apply su1;assumption)) (hK L ht)
    · have hsg : (if sgid d.mode then d.gid else c.gid) = c.gid := if_neg (fun q => g3 ((sgid_iff hmd).1 q))
      have hma : T.add { n0 with uid := c.uid, gid := c.gid } = T.add (madeIn c d n0) := by unfold madeIn; rw [hsg]
      have hsame : nodeOk { n0 with uid := c.uid, gid := c.gid } = nodeOk (madeIn c d n0) := by unfold madeIn; rw [hsg]
      repeat first|(apply x2;apply r0;(with_reducible repeat first|assumption|apply q0|apply q3);apply r0)|(apply x9;apply r0)|apply w6|apply w7|apply wa|apply w5
      refine radd2_c ht hlen (n := { n0 with uid := c.uid, gid := c.gid }) hnl (fun M hM hMl => ?_)
      rw [hma] at hM ⊢
      rcases add_cases T (madeIn c d n0) with ⟨k, hf, hok, ha⟩ | ⟨hf, hok, ha⟩ | ⟨hok, ha⟩
      · rw [ha] at hK hM ⊢
        rw [if_neg (fun q => q rfl)] at hK
        repeat (apply x1;apply r0;apply r0)
        refine s_alloc tk rfl rfl rfl (fun b13 hb13 => ?_); have hb := hb13; (try simp only [put_none_iff, prot_none_iff] at hb); (repeat obtain ⟨_, _, hb⟩ := hb)
        repeat first|(apply gO;first|(apply x1;apply r0;apply r0)|(apply x2;apply r0;(with_reducible repeat first|assumption|apply q0|apply ps|apply q3);apply r0)|(apply xst;apply r0;(with_reducible repeat first|assumption|apply q0|apply ps|apply q3);apply r0)|(apply x9;apply r0)|apply w4)|(apply gW;first|apply w6|apply w7|(apply w9;apply r0)|apply wa)|apply w5
        refine rnwith_c hds hdn hn1 ?_
        rw [rwith_eq]
        have hws := withN_sizes hdf (name := r.1.name) hn2 ((k : Int) + 1)
        obtain ⟨j1, j2⟩ := add_has ht.good hf hok
        obtain ⟨j3, j4, j5⟩ := j2 r.1.dir hdh
        have hpw := fun he => put_with (T := T.put k (madeIn c d n0)) (put_good ht.good (.inr hok) k) (p := r.1.dir) j3 (name := r.1.name) (id := (k : Int) + 1) he
        rw [j5, hd0] at hpw
        simp only at hK
        generalize hwe : d.withE r.1.name ((k : Int) + 1) = ze at hK hpw ⊢
        generalize hwn : d.withN r.1.name ((k : Int) + 1) = zn at hK hpw hws ⊢
        repeat first|(apply x1;apply r0;apply r0)|(apply xst;apply r0;(with_reducible repeat first|assumption|apply ps|apply gp);apply r0)|apply w4|apply w6|apply w7|apply w5
        refine aw_cond rfl (fun g7 => ?_) (fun g7 => ?_)<;>first|replace g7:=not_t g7|replace g7:=not_f g7
        · rw [if_pos g7, drop_add ht.good hf hok] at hK
          repeat first|(apply gO;first|(apply x1;apply r0;apply r0)|(apply x2;apply r0;(with_reducible repeat first|assumption|apply q0|apply ps|apply q3|apply gp);apply r0)|(apply xst;apply r0;(with_reducible repeat first|assumption|apply q0|apply ps|apply q3|apply gp);apply r0)|apply w4)|(apply gW;first|apply w6|apply w7|apply wd)|apply w5|apply we
          exact rt3c (H' := H) rfl rfl (by apply q0) rfl (by rfl) rfl rfl (by exact Wk.three (wk_agg rfl)) (by repeat first|exact s0|(apply su1;assumption)) (hK L ht)
        have g7' : ze = 0 := g7
        obtain ⟨q1, q2, -⟩ := hpw g7'
        rw [if_neg (fun q => q g7'), q1] at hK
        have htp := tells_put hM j3 (.inr q2)
        have hrng := tells_rng hM j3
        repeat first|(apply x1;apply r0;apply r0)|(apply x2;apply r0;(with_reducible repeat first|assumption|apply q0|apply q3);apply r0)|(apply x9;apply r0)|apply w6|apply w7|apply wa|apply w5
        refine rwith_c (n := zn) hrng (Nat.le_trans hM.rel.most (by decide)) ?_
        repeat first|(apply x1;apply r0;apply r0)|(apply xst;apply r0;(with_reducible repeat first|assumption|apply ps|apply gp);apply r0)|apply w4|apply wd|apply w5
        exact rt3c (H' := H) rfl rfl (by apply q0) rfl (by rfl) rfl rfl (by exact Wk.three (wk_agg rfl)) (by repeat first|exact s0|(apply su1;assumption)) (hK _ htp)
      · rw [ha] at hK ⊢
        rw [if_pos (show ¬ (28 : Int) = 0 by decide)] at hK
        repeat (apply x1;apply r0;apply r0)
        refine s_alloc tk rfl rfl rfl (fun b13 hb13 => ?_); have hb := hb13; (try simp only [put_none_iff, prot_none_iff] at hb); (repeat obtain ⟨_, _, hb⟩ := hb)
        repeat first|(apply gO;first|(apply x1;apply r0;apply r0)|(apply x2;apply r0;(with_reducible repeat first|assumption|apply q0|apply ps|apply q3|apply gp);apply r0)|(apply xst;apply r0;(with_reducible repeat first|assumption|apply q0|apply ps|apply q3|apply gp);apply r0)|apply w4)|(apply gW;first|apply w6|apply w7|(apply w8;apply r0)|apply wd)|apply w5|apply we
        exact rt3c (H' := H) rfl rfl (by apply q0) rfl (by rfl) rfl rfl (by exact Wk.three (wk_agg rfl)) (by repeat first|exact s0|(apply su1;assumption)) (hK L ht)
      · rw [ha] at hK ⊢
        rw [if_pos (show ¬ (22 : Int) = 0 by decide)] at hK
        repeat (apply x1;apply r0;apply r0)
        refine s_alloc tk rfl rfl rfl (fun b13 hb13 => ?_); have hb := hb13; (try simp only [put_none_iff, prot_none_iff] at hb); (repeat obtain ⟨_, _, hb⟩ := hb)
        repeat first|(apply gO;first|(apply x1;apply r0;apply r0)|(apply x2;apply r0;(with_reducible repeat first|assumption|apply q0|apply ps|apply q3|apply gp);apply r0)|(apply xst;apply r0;(with_reducible repeat first|assumption|apply q0|apply ps|apply q3|apply gp);apply r0)|apply w4)|(apply gW;first|apply w6|apply w7|(apply w8;apply r0)|apply wd)|apply w5|apply we
        exact rt3c (H' := H) rfl rfl (by apply q0) rfl (by rfl) rfl rfl (by exact Wk.three (wk_agg rfl)) (by repeat first|exact s0|(apply su1;assumption)) (hK L ht)
theorem rcreate_c {T : Tab} {L : List Node} (ht : Tells T L) (hlen : L.length = T.room.toNat) {c : Cred} (hc : c.small) {umask mode : Int} (hu : in64 umask) (hm : in64 mode) {path : ByteArray} (hp : path.size ≤ 16777200) {fo : Bool} {H : AHeap} {K : AVal → AHeap → Prop}
    (hK : ∀ M, Tells (T.plant c (T.resolve c path fo) (fun _ => fileN mode umask)).1 M → K (.tup [.agg (encT M), .i (T.plant c (T.resolve c path fo) (fun _ => fileN mode umask)).2.1, .i (T.plant c (T.resolve c path fo) (fun _ => fileN mode umask)).2.2]) H) :
    ACalls Tryz.prog 20 [.agg (encT L), .agg (encCred c), .i umask, .s path, .i mode, .b fo] H K := by
  refine acalls_body Tryz.func20 rfl rfl rfl ?_
  have hrn := resolve_name T c path fo
  repeat first|apply w6|apply w7
  refine s_box rfl rfl rfl (fun b6 hb6 => ?_); have hb := hb6; (try simp only [put_none_iff, prot_none_iff] at hb); (repeat obtain ⟨_, _, hb⟩ := hb)
  skip
  refine s_box rfl rfl rfl (fun b7 hb7 => ?_); have hb := hb7; (try simp only [put_none_iff, prot_none_iff] at hb); (repeat obtain ⟨_, _, hb⟩ := hb)
  skip
  refine s_alloc tk rfl rfl rfl (fun b12 hb12 => ?_); have hb := hb12; (try simp only [put_none_iff, prot_none_iff] at hb); (repeat obtain ⟨_, _, hb⟩ := hb)
  repeat first|(apply x1;apply r0;apply r0)|(apply x2;apply r0;(with_reducible repeat first|assumption|apply q0|apply q3);apply r0)|(apply x9;apply r0)|apply w4|apply w6|apply w7|apply w5
  refine rresolve_c ht hc hp ?_
  generalize T.resolve c path fo = r at hK hrn ⊢
  repeat (apply x1;apply r0;apply r0)
  refine s_alloc tk rfl rfl rfl (fun b15 hb15 => ?_); have hb := hb15; (try simp only [put_none_iff, prot_none_iff] at hb); (repeat obtain ⟨_, _, hb⟩ := hb)
  repeat first|(apply x1;apply r0;apply r0)|(apply xst;apply r0;(apply ps);apply r0)|apply w4|apply w6|apply w7|apply w5
  refine aw_cond rfl (fun g1 => ?_) (fun g1 => ?_)<;>first|replace g1:=not_t g1|replace g1:=not_f g1
  · unfold Tab.plant at hK
    rw [if_pos g1] at hK
    repeat first|(apply gO;first|(apply x1;apply r0;apply r0)|(apply x2;apply r0;(with_reducible repeat first|assumption|apply q0|apply ps|apply q3|apply gp);apply r0)|(apply xst;apply r0;(with_reducible repeat first|assumption|apply q0|apply ps|apply q3|apply gp);apply r0)|apply w4)|(apply gW;first|apply w6|apply w7|apply wd)|apply w5|apply we
    exact rt3c (H' := H) rfl rfl (by apply q0) rfl (by rfl) rfl rfl (by exact Wk.three (wk_agg rfl)) (by repeat first|exact s0|(apply su1;assumption)) (hK L ht)
  have g1' : r.2 = 0 := g1
  repeat first|apply w6|apply wa|apply w5
  refine aw_prot [b6, b7, b15] (allc (by with_reducible repeat first|assumption|apply q0|apply q3) (allc (by with_reducible repeat first|assumption|apply q0|apply q3) (allc (by apply q0) (allc0 _)))) ?_
  refine aw_plan mixed (.take 0 (.take 1 (.take 2 (.take 3 (.take 4 (.one 5 (.one 6 (.one 7 (.take 8 (.take 9 (.take 10 (.one 11 (.take 12 (.take 13 .done)))))))))))))) (by kernel_rfl) ?_
  repeat first|(apply x9;apply r0)|(apply y1;apply r0;apply r0)|(apply y4;apply r0)|(apply y2;apply r0;apply r0;(with_reducible repeat first|assumption|apply q0|apply pg|apply q3|exact mm0|apply mm1);apply r0)
  refine rmasked_c hm hu ?_
  rw [← masked_eq]
  repeat first|(apply xbd;apply r0)|(apply x9;apply r0)|apply w4|(apply y4;apply r0)
  refine ACalls.wk (rplant_c ht hlen hc g1' hrn (n0 := fileN mode umask) (by show ¬ (1 : Int) = 2; decide) ⟨Nat.zero_le _, fun e he => by cases he⟩ (fun M hM => ?_)) (wkFour (wk_agg rfl))
  repeat first|(apply xst;apply r0;(with_reducible repeat first|assumption|apply ps|apply gp|apply gq|apply nm1|exact nm0);apply r0)|apply w4|(apply y1;apply r0;apply r0)|apply y0|(apply y4;apply r0)
  refine prot_done_put (by simp only [List.mem_cons,List.not_mem_nil,or_false,not_or]; first|exact (by first|assumption|exact n1 ‹_› ‹_›|exact n2 ‹_› ‹_›|exact n3 ‹_› ‹_›|exact n4 ‹_› ‹_›)|exact ⟨(by first|assumption|exact n1 ‹_› ‹_›|exact n2 ‹_› ‹_›|exact n3 ‹_› ‹_›|exact n4 ‹_› ‹_›),(by first|assumption|exact n1 ‹_› ‹_›|exact n2 ‹_› ‹_›|exact n3 ‹_› ‹_›|exact n4 ‹_› ‹_›)⟩|exact ⟨(by first|assumption|exact n1 ‹_› ‹_›|exact n2 ‹_› ‹_›|exact n3 ‹_› ‹_›|exact n4 ‹_› ‹_›),(by first|assumption|exact n1 ‹_› ‹_›|exact n2 ‹_› ‹_›|exact n3 ‹_› ‹_›|exact n4 ‹_› ‹_›),(by first|assumption|exact n1 ‹_› ‹_›|exact n2 ‹_› ‹_›|exact n3 ‹_› ‹_›|exact n4 ‹_› ‹_›)⟩) ?_
  repeat first|apply wd|apply w5
  exact rt3c (H' := H) rfl rfl (by apply q0) rfl (by rfl) rfl rfl (by exact Wk.three (wk_agg rfl)) (by repeat first|exact s0|(apply su1;assumption)) (hK M hM)
end Abs
end Go.Proofs.YtpifnlodilcgkaaGreat
