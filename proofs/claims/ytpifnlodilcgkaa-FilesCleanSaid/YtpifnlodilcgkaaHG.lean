import Derived.Test.YtpifnlodilcgkaaHE
import Derived.Test.YtpifnlodilcgkaaGI
set_option linter.unusedVariables false
namespace Go.Proofs.Ytpifnlodilcgkaa
namespace Abs
set_option maxRecDepth 10000
/-! ### FilesClean: plain law -/
theorem sameTo_selfG (T : Tab) : ∀ k : Nat, T.sameTo T k = true
  | 0 => rfl
  | k + 1 => by simp only [Tab.sameTo, sameTo_selfG T k, same_refl, Bool.and_self]
theorem same_selfG (T : Tab) : T.same T = true := sameTo_selfG T 24
def w0 (m : Int) : Int := if clsBits (dropB (m % 4096) 2048) 1 % 2 = 0 then dropB (m % 4096) 2048 else dropB (dropB (m % 4096) 2048) 1024
theorem w0_all : ∀ a : Fin 64, ∀ b : Fin 64, (0 ≤ w0 ((64 * a.val + b.val : Nat) : Int) ∧ w0 ((64 * a.val + b.val : Nat) : Int) ≤ 4095) ∧ bitsR .and .i64 (w0 ((64 * a.val + b.val : Nat) : Int)) 2048 = 0 ∧
    (bitsR .and .i64 (w0 ((64 * a.val + b.val : Nat) : Int)) 1024 = 0 ∨ bitsR .and .i64 (w0 ((64 * a.val + b.val : Nat) : Int)) 8 = 0) ∧ bitsR .andNot .i64 (w0 ((64 * a.val + b.val : Nat) : Int)) 3072 = bitsR .andNot .i64 ((64 * a.val + b.val : Nat) : Int) 3072 := by decide +kernel
theorem w0_ok {m : Int} (h : 0 ≤ m ∧ m ≤ 4095) : (0 ≤ w0 m ∧ w0 m ≤ 4095) ∧ bitsR .and .i64 (w0 m) 2048 = 0 ∧ (bitsR .and .i64 (w0 m) 1024 = 0 ∨ bitsR .and .i64 (w0 m) 8 = 0) ∧ bitsR .andNot .i64 (w0 m) 3072 = bitsR .andNot .i64 m 3072 := by
  have := w0_all ⟨m.toNat / 64, by omega⟩ ⟨m.toNat % 64, by omega⟩
  simp only at this
  rw [show ((64 * (m.toNat / 64) + m.toNat % 64 : Nat) : Int) = m by omega] at this
  exact this
theorem written_root {c : Cred} {m : Int} (h : 0 ≤ m ∧ m ≤ 4095) (h0 : c.uid = 0) : c.written 1 m = m := by
  unfold Cred.written Cred.root
  rw [decide_eq_true h0, Bool.true_or, if_pos rfl]
  omega
theorem written_other {c : Cred} {m : Int} (h0 : ¬ c.uid = 0) : c.written 1 m = w0 m := by
  unfold Cred.written Cred.root
  rw [decide_eq_false h0, Bool.false_or, decide_eq_true (rfl : (1 : Int) = 1), if_neg (by decide)]
  rfl
structure Step (c : Cred) (ch : Bool) (a n : Node) : Prop where
  kind : n.kind = 1
  uid : n.uid = a.uid
  gid : n.gid = a.gid
  keep : ch = false ∨ c.uid = 0 → n.mode = a.mode
  clean : ch = true → ¬ c.uid = 0 → bitsR .and .i64 n.mode 2048 = 0 ∧ (bitsR .and .i64 n.mode 1024 = 0 ∨ bitsR .and .i64 n.mode 8 = 0)
  rest : bitsR .andNot .i64 n.mode 3072 = bitsR .andNot .i64 a.mode 3072
theorem ok_file {n : Node} (h : nodeOk n = true) : 0 ≤ n.mode ∧ n.mode ≤ 4095 := by
  unfold nodeOk at h
  simp only [Bool.and_eq_true, decide_eq_true_eq] at h
  exact ⟨by omega, by omega⟩
theorem step_wrote {c : Cred} {ch : Bool} {a n : Node} (h : Step c ch a n) (ha : nodeOk n = true) (d : ByteArray) : Step c true a (wrote c n d) := by
  have hm := ok_file ha
  have hk := h.kind
  by_cases h0 : c.uid = 0
  · have hw : (wrote c n d).mode = n.mode := by
      show c.written n.kind n.mode = _
      rw [hk, written_root hm h0]
    exact ⟨hk, h.uid, h.gid, fun _ => by rw [hw]; exact h.keep (.inr h0), fun _ q => absurd h0 q, by rw [hw]; exact h.rest⟩
  · have hw : (wrote c n d).mode = w0 n.mode := by
      show c.written n.kind n.mode = _
      rw [hk, written_other h0]
    obtain ⟨_, w2', w3', w4'⟩ := w0_ok hm
    exact ⟨hk, h.uid, h.gid, fun q => q.elim (fun q => absurd q (by decide)) (fun q => absurd q h0), fun _ _ => by rw [hw]; exact ⟨w2', w3'⟩, by rw [hw, w4']; exact h.rest⟩
theorem wrote_ok {c : Cred} {n : Node} {d : ByteArray} (hk : n.kind = 1) (h : nodeOk n = true) (hd : d.size ≤ 48) : nodeOk (wrote c n d) = true := by
  have hm := ok_file h
  have hm2 : 0 ≤ (wrote c n d).mode ∧ (wrote c n d).mode ≤ 4095 := by
    by_cases h0 : c.uid = 0
    · show 0 ≤ c.written n.kind n.mode ∧ c.written n.kind n.mode ≤ 4095
      rw [hk, written_root hm h0]; exact hm
    · show 0 ≤ c.written n.kind n.mode ∧ c.written n.kind n.mode ≤ 4095
      rw [hk, written_other h0]; exact (w0_ok hm).1
  unfold nodeOk at h ⊢
  rw [if_pos hk] at h
  rw [if_pos (show (wrote c n d).kind = 1 from hk)]
  simp only [Bool.and_eq_true, decide_eq_true_eq] at h ⊢
  obtain ⟨⟨⟨⟨a1, a2⟩, a3⟩, a4⟩, ⟨b1, b2⟩, b3⟩ := h
  exact ⟨⟨⟨⟨hm2.1, hm2.2⟩, a3⟩, a4⟩, ⟨b1, b2⟩, hd⟩
theorem at_okG {T : Tab} (hg : T.good) {i : Int} (h : T.has i = true) : nodeOk (T.at i) = true := by
  rcases at_zero_ok hg i with z | z
  · have := has_kind'.1 h
    rw [z] at this; exact absurd rfl this
  · exact z
structure PutW (T U : Tab) (c : Cred) (i : Int) (d : ByteArray) : Prop where
  good : U.good
  at_ : ∀ k, U.at k = if k = i then wrote c (T.at i) d else T.at k
theorem put_wrote {T : Tab} (hg : T.good) {c : Cred} {i : Int} {d : ByteArray} (hh : T.has i = true) (hk : (T.at i).kind = 1) (hd : d.size ≤ 48) : PutW T (T.putE i (wrote c (T.at i) d)).1 c i d := by
  have hr := has_rng hh
  have hok := wrote_ok (c := c) (d := d) hk (at_okG hg hh) hd
  have e : (T.putE i (wrote c (T.at i) d)).1 = T.put (i - 1).toNat (wrote c (T.at i) d) := by
    unfold Tab.putE
    rw [if_pos hh, if_pos hok]
  rw [e]
  refine ⟨put_good hg (.inr hok) _, fun k => ?_⟩
  rw [at_put hg (by omega) (.inr hok)]
  rw [show (((i - 1).toNat : Nat) : Int) + 1 = i by omega]
theorem write_step {T : Tab} (hg : T.good) {c : Cred} {i : Int} {b : ByteArray} (hh : T.has i = true) (hk : (T.at i).kind = 1) :
    ((T.writeF c i 0 b).2 = 0 ∧ 0 < (b.size : Int) ∧ ∃ d : ByteArray, d.size ≤ 48 ∧ PutW T (T.writeF c i 0 b).1 c i d) ∨ (¬ ((T.writeF c i 0 b).2 = 0 ∧ 0 < (b.size : Int)) ∧ (T.writeF c i 0 b).1 = T) := by
  unfold Tab.writeF
  rw [if_neg (fun q => q hk), if_neg (show ¬ (0 : Int) < 0 by decide)]
  by_cases hb : (b.size : Int) = 0
  · rw [if_pos hb]; exact .inr ⟨fun q => by omega, rfl⟩
  rw [if_neg hb]
  by_cases hl : 48 - (b.size : Int) < 0
  · rw [if_pos hl]; exact .inr ⟨fun q => absurd (show (27 : Int) = 0 from q.1) (by decide), rfl⟩
  rw [if_neg hl]
  have hdat : (T.at i).data.size ≤ 48 := by
    have h := at_okG hg hh
    unfold nodeOk at h
    rw [if_pos hk] at h
    simp only [Bool.and_eq_true, decide_eq_true_eq] at h
    exact h.2.2
  have hsz : (ofL (outL (T.at i).data b (0 : Int).toNat)).size ≤ 48 := by
    show (outL (T.at i).data b (0 : Int).toNat).toArray.size ≤ 48
    rw [List.size_toArray, outL_len]
    show max _ (0 + b.size) ≤ 48
    omega
  exact .inl ⟨rfl, by omega, _, hsz, put_wrote hg hh hk hsz⟩
def flg (tr : Bool) : Int := if tr = true then 18 else 2
theorem flg_all : ∀ tr : Bool, flagsOk (flg tr) = true ∧ hasF (flg tr) 4 = false ∧ hasF (flg tr) 8 = false ∧ hasF (flg tr) 16 = tr := by decide +kernel
structure OpenL (T : Tab) (c : Cred) (tr : Bool) (O : Tab × Int × Int) : Prop where
  good : O.1.good
  err : ¬ O.2.2 = 0 → O.1 = T
  ok : O.2.2 = 0 → T.has O.2.1 = true ∧ (T.at O.2.1).kind = 1 ∧ O.1 = if tr = true then (T.putE O.2.1 (wrote c (T.at O.2.1) ⟨#[]⟩)).1 else T
theorem open_clean {T : Tab} (hg : T.good) (c : Cred) (r : Found × Int) (tr : Bool) : OpenL T c tr (T.openF c 0 r (flg tr) 0) := by
  have hgR := good_openF hg c 0 r (flg tr) 0
  obtain ⟨f1, f2, f3, f4⟩ := flg_all tr
  unfold Tab.openF at hgR ⊢
  rw [f1, f2, f3, f4, if_neg (show ¬ true = false by decide)] at hgR ⊢
  by_cases h1 : ¬ r.2 = 0
  · rw [if_pos h1] at hgR ⊢; exact ⟨hgR, fun _ => rfl, fun q => absurd q h1⟩
  rw [if_neg h1] at hgR ⊢
  by_cases h2 : T.has r.1.node = false
  · rw [if_pos h2, if_pos (show false = false from rfl)] at hgR ⊢; exact ⟨hgR, fun _ => rfl, fun q => absurd (show (2 : Int) = 0 from q) (by decide)⟩
  rw [if_neg h2, if_neg (show ¬ false = true by decide)] at hgR ⊢
  have h2' : T.has r.1.node = true := by simpa using h2
  by_cases h3 : (T.at r.1.node).kind = 3
  · rw [if_pos h3] at hgR ⊢; exact ⟨hgR, fun _ => rfl, fun q => absurd (show (40 : Int) = 0 from q) (by decide)⟩
  rw [if_neg h3] at hgR ⊢
  by_cases h4 : (T.at r.1.node).kind = 2
  · rw [if_pos h4] at hgR ⊢; exact ⟨hgR, fun _ => rfl, fun q => absurd (show (21 : Int) = 0 from q) (by decide)⟩
  rw [if_neg h4] at hgR ⊢
  have h5 : (T.at r.1.node).kind = 1 := by
    rcases nodeOk_kind0 (at_okG hg h2') with z | z | z
    · exact z
    · exact absurd z h4
    · exact absurd z h3
  by_cases h6 : T.can c r.1.node (wantF (flg tr)) = false
  · rw [if_pos h6] at hgR ⊢; exact ⟨hgR, fun _ => rfl, fun q => absurd (show (13 : Int) = 0 from q) (by decide)⟩
  rw [if_neg h6] at hgR ⊢
  cases tr with
  | true =>
    rw [if_pos rfl] at hgR ⊢
    exact ⟨hgR, fun q => absurd rfl q, fun _ => ⟨h2', h5, rfl⟩⟩
  | false =>
    rw [if_neg (show ¬ false = true by decide)] at hgR ⊢
    exact ⟨hgR, fun _ => rfl, fun _ => ⟨h2', h5, rfl⟩⟩
structure CleanL (T : Tab) (c : Cred) (i : Int) (tr : Bool) (b : ByteArray) (W : Tab × Int) : Prop where
  good : W.1.good
  step : ∀ ch : Bool, (ch = true ↔ tr = true ∨ (W.2 = 0 ∧ 0 < (b.size : Int))) → Step c ch (T.at i) (W.1.at i)
  rest : ∀ k, k ≠ i → W.1.at k = T.at k
theorem clean_law {T : Tab} (hg : T.good) {c : Cred} {tr : Bool} {b : ByteArray} {O : Tab × Int × Int} (h : OpenL T c tr O) (h0 : O.2.2 = 0) : CleanL T c O.2.1 tr b (O.1.writeF c O.2.1 0 b) := by
  obtain ⟨o1, o2, o3⟩ := h.ok h0
  have hgO := h.good
  generalize O.2.1 = i at *
  have hst0 : Step c false (T.at i) (T.at i) := ⟨o2, rfl, rfl, fun _ => rfl, fun q => absurd q (by decide), rfl⟩
  have key : ∃ n1, Step c tr (T.at i) n1 ∧ nodeOk n1 = true ∧ ∀ k, O.1.at k = if k = i then n1 else T.at k := by
    cases tr with
    | true =>
      rw [if_pos rfl] at o3
      have hp := put_wrote hg (c := c) (d := ⟨#[]⟩) o1 o2 (by decide)
      rw [← o3] at hp
      exact ⟨_, step_wrote hst0 (at_okG hg o1) _, wrote_ok o2 (at_okG hg o1) (by decide), hp.at_⟩
    | false =>
      rw [if_neg (show ¬ false = true by decide)] at o3
      refine ⟨_, hst0, at_okG hg o1, fun k => ?_⟩
      rw [o3]
      split
      · rename_i z; rw [z]
      · rfl
  obtain ⟨n1, k1, k2, k3⟩ := key
  have hi : O.1.at i = n1 := by rw [k3, if_pos rfl]
  have hk : (O.1.at i).kind = 1 := by rw [hi]; exact k1.kind
  have hh : O.1.has i = true := has_kind'.2 (by rw [hk]; decide)
  rcases write_step hgO (c := c) (b := b) hh hk with ⟨w1', w2', d, w3', hp⟩ | ⟨w1', w2'⟩
  · refine ⟨hp.good, fun ch hch => ?_, fun k hki => by rw [hp.at_, if_neg hki, k3, if_neg hki]⟩
    have : ch = true := hch.2 (.inr ⟨w1', w2'⟩)
    subst this
    rw [hp.at_, if_pos rfl, hi]
    exact step_wrote k1 k2 d
  · refine ⟨by rw [w2']; exact hgO, fun ch hch => ?_, fun k hki => by rw [w2', k3, if_neg hki]⟩
    rw [w2', hi]
    have : ch = tr := by
      cases tr with
      | true => exact hch.2 (.inl rfl)
      | false =>
        cases ch with
        | false => rfl
        | true => exact absurd (hch.1 rfl) (fun q => q.elim (fun q => absurd q (by decide)) w1')
    rw [this]; exact k1
end Abs
end Go.Proofs.Ytpifnlodilcgkaa

set_option linter.unusedVariables false
namespace Go.Proofs.Ytpifnlodilcgkaa
namespace Abs
set_option linter.unusedSimpArgs false
set_option maxRecDepth 10000
set_option maxHeartbeats 2000000
attribute [local irreducible] AOps AW AP ACalls thenQ inBlk noGoto

/-! ### FilesClean -/
theorem filesClean_c {room : Int} {l : List Raw} (hl : l.length ≤ 9223372036854775807) {c : Cred} {path : ByteArray} {tr : Bool} {b : ByteArray} (hb0 : b.size ≤ 9223372036854775807) {H : AHeap} {K : AVal → AHeap → Prop} (hK : K (.b true) H) :
    ACalls Try.prog 3 [.i room, .sl (encRaws l) .no, .agg (encCred c), .s path, .b tr, .sl (encBytes b) .no] H K := by
  refine acalls_body Try.func3 rfl rfl rfl ?_
  have hlb := encBytes_len b
  repeat first|apply w6|apply w7
  refine s_box rfl rfl rfl (fun b8 hb8 => ?_); have hb := hb8; (try simp only [put_none_iff, prot_none_iff] at hb); (repeat obtain ⟨_, _, hb⟩ := hb)
  repeat first|(apply x1;apply r0;apply r0)|(apply x9;apply r0)|apply w4|apply w6|apply w7|apply w5
  refine awake16_c ?_
  repeat first|(apply gO;first|(apply x1;apply r0;apply r0)|(apply x2;apply r0;(apply q0);apply r0)|(apply x9;apply r0)|apply w4)|(apply gW;first|apply w6|apply w7|(apply w9;apply r0)|apply wa)|apply w5
  refine built16_c hl ?_ (fun T t hB ht => ?_)
  · repeat first|(apply gO;first|(apply x1;apply r0;apply r0)|apply w4|(apply w3;apply r0;apply r0))|(apply gW;first|apply w6|apply w7|(apply w8;apply r0)|apply wd)|apply w5|apply we
    exact rt1 (H' := H) rfl rfl (.refl _) (by repeat first|exact s0|(apply su1;assumption)) hK
  have hg := hB.good
  have hc := hB.small
  have nb7 : b8 ≠ t := by
    have := (put_none_iff.1 ht)
    exact this.2.1
  have ht' : H t = none := (put_none_iff.1 ht).2.2
  repeat first|(apply x1;apply r0;apply r0)|(apply x5;apply r0)|apply w4|apply w6|apply w7|apply w5
  refine s_gsplit rfl rfl (fun g1 => ?_) (fun g1 => ?_)<;>first|replace g1:=of_decide_eq_true g1|replace g1:=of_decide_eq_false g1
  · repeat first|(apply gO;first|(apply x1;apply r0;apply r0)|apply w4|(apply w3;apply r0;apply r0))|(apply gW;first|apply w6|apply w7|(apply w8;apply r0)|apply wd)|apply w5|apply we
    exact rt1 (H' := H) rfl rfl (.refl _) (by repeat first|exact s0|(apply su1;assumption)) hK
  repeat first|(apply x1;apply r0;apply r0)|(apply x5;apply r0)|apply w4|apply w5
  refine aw_cond rfl (fun g2 => ?_) (fun g2 => ?_)<;>first|replace g2:=of_decide_eq_true g2|replace g2:=of_decide_eq_false g2
  · repeat first|(apply x1;apply r0;apply r0)|apply w4|apply w6|apply w7|apply wd|apply w5|apply we
    exact rt1 (H' := H) rfl rfl (.refl _) (by repeat first|exact s0|(apply su1;assumption)) hK
  rw [hlb] at g2
  repeat first|(apply x1;apply r0;apply r0)|(apply x9;apply r0)|apply w6|apply w7|apply wa|apply w5
  refine clone_c hg.wf (by apply q0) (fun u hu0 => ?_)
  generalize hX : AHeap.put _ t _ = X at hu0 ⊢
  have xT' : X t = some (.cells (encTab T)) := by rw [← hX]; exact (by apply get_eq;(focus apply ps);rfl)
  have x9' : Rd X b8 (encCred c) := by rw [← hX]; exact (by apply rd_eq;(focus with_reducible repeat first|assumption|apply q0|apply q3);rfl)
  have xss : H.sub X := by rw [← hX]; exact (by repeat first|exact s0|(apply su1;assumption))
  clear hX
  have fu : H u = none := sub_none xss hu0
  have ntu : t ≠ u := get_ne xT' hu0
  have nut : u ≠ t := Ne.symm ntu
  have n9u : b8 ≠ u := rd_ne x9' hu0
  generalize hX2 : AHeap.put _ u _ = X2
  have zT2 : X2 t = some (.cells (encTab T)) := by rw [← hX2]; exact (by apply get_eq;(focus with_reducible repeat first|assumption|apply gp);rfl)
  have z92 : Rd X2 b8 (encCred c) := by rw [← hX2]; exact (by apply rd_eq;(focus with_reducible repeat first|assumption|apply q3);rfl)
  have zu2 : X2 u = some (.cells (encTab T)) := by rw [← hX2]; exact (by apply get_eq;(focus apply ps);rfl)
  have zs2 : H.sub X2 := by rw [← hX2]; exact (by repeat first|assumption|(apply su1;assumption))
  clear hX2
  repeat (apply gO;first|(apply x1;apply r0;apply r0)|((first|apply x2|apply xst);apply r0;(with_reducible repeat first|assumption|apply q0|apply ps|exact q1 ‹_›|exact q2 ‹_›|apply q4|apply pg|apply q3|apply gp|apply gq|exact n1 ‹_› ‹_›|exact n2 ‹_› ‹_›|exact n3 ‹_› ‹_›|exact n4 ‹_› ‹_›|apply nm1|exact nm0|exact mm0|apply mm1);apply r0)|((first|apply x3|apply x5|apply x8|apply xbd|apply xbs|apply x9);apply r0)|apply w4|(apply w3;apply r0;apply r0)|((first|apply x6|apply x7);apply r0;omega))
  first | apply w7 | apply w5 | apply wl | apply wg | apply we | apply wf | apply wh | apply wj | apply wm | apply wn | apply wa | apply wd | apply wb | apply wc | apply wk
  apply w6
  refine aw_cutS (fun F' H' => Fr.sub [(3, .s path), (4, .b tr), (5, .sl (encBytes b) .no), (8, .ptr b8 0), (14, .ptr t 0), (16, .ptr u 0), (17, .i 2)] F' ∧ X2.sub H') ?_ ?_
  · repeat first|(apply x1;apply r0;apply r0)|apply w4|apply w7|apply w5
    exact ⟨(by repeat (first | exact Fr.sub_nil _ | refine Fr.sub_cons rfl ?_)), AHeap.sub_refl _⟩
  rintro F' H' ⟨hF, hH⟩
  refine AW_sub ?_ hF hH
  clear hF hH
  apply w6
  refine aw_cutS (fun F' H' => Fr.sub [(3, .s path), (4, .b tr), (5, .sl (encBytes b) .no), (8, .ptr b8 0), (14, .ptr t 0), (16, .ptr u 0), (17, .i (flg tr))] F' ∧ X2.sub H') ?_ ?_
  · cases tr with
    | true =>
      repeat first|(apply x1;apply r0;apply r0)|apply w4|(apply x6;apply r0;omega)|apply w6|apply w7|(apply w8;apply r0)|apply w5
      exact ⟨(by repeat (first | exact Fr.sub_nil _ | refine Fr.sub_cons rfl ?_)), AHeap.sub_refl _⟩
    | false =>
      repeat first|(apply x1;apply r0;apply r0)|apply w4|apply w6|apply w7|(apply w9;apply r0)|apply wa|apply w5
      exact ⟨(by repeat (first | exact Fr.sub_nil _ | refine Fr.sub_cons rfl ?_)), AHeap.sub_refl _⟩
  rintro F' H' ⟨hF, hH⟩
  refine AW_sub ?_ hF hH
  clear hF hH
  repeat first|(apply x1;apply r0;apply r0)|(apply x2;apply r0;(with_reducible assumption);apply r0)|(apply x9;apply r0)|apply w6|apply w7
  refine open_c hg hc (by with_reducible assumption) ?_
  have hO := open_clean hg c (T.resolve c path (!hasF (flg tr) 40)) tr
  generalize T.openF c 0 (T.resolve c path (!hasF (flg tr) 40)) (flg tr) 0 = O at hO ⊢
  have hgO := hO.good
  have hoe := hO.err
  generalize hY : AHeap.put _ t _ = Y
  have yT : Y t = some (.cells (encTab O.1)) := by rw [← hY]; exact (by apply get_eq;(focus apply ps);rfl)
  have yU : Rd Y u (encTab T) := by rw [← hY]; exact (by apply rd_eq;(focus with_reducible repeat first|assumption|exact q1 ‹_›|apply q3);rfl)
  have yr8 : Rd Y b8 (encCred c) := by rw [← hY]; exact (by apply rd_eq;(focus with_reducible repeat first|assumption|apply q3);rfl)
  have ys : H.sub Y := by rw [← hY]; exact (by repeat first|assumption|(apply su1;assumption))
  clear hY
  repeat (apply gO;first|(apply x1;apply r0;apply r0)|((first|apply x2|apply xst);apply r0;(with_reducible repeat first|assumption|apply q0|apply ps|exact q1 ‹_›|exact q2 ‹_›|apply q4|apply pg|apply q3|apply gp|apply gq|exact n1 ‹_› ‹_›|exact n2 ‹_› ‹_›|exact n3 ‹_› ‹_›|exact n4 ‹_› ‹_›|apply nm1|exact nm0|exact mm0|apply mm1);apply r0)|((first|apply x3|apply x5|apply x8|apply xbd|apply xbs|apply x9);apply r0)|apply w4|(apply w3;apply r0;apply r0)|((first|apply x6|apply x7);apply r0;omega))
  first | apply w7 | apply w5 | apply wl | apply wg | apply we | apply wf | apply wh | apply wj | apply wm | apply wn | apply wa | apply wd | apply wb | apply wc | apply wk
  by_cases e0 : O.2.2 = 0
  case neg =>
    have e0' := hoe e0
    rw [e0'] at yT
    repeat first|(apply x1;apply r0;apply r0)|apply w6|apply w7
    refine s_gsplit rfl rfl (fun e1 => ?_) (fun e1 => ?_)<;>first|replace e1:=not_t e1|replace e1:=not_f e1
    case refine_2 => exact absurd e1 e0
    repeat first|(apply x1;apply r0;apply r0)|apply w4|(apply w3;apply r0;apply r0)|apply w6|apply w7|(apply w8;apply r0)|apply w5
    refine s_gsplit rfl rfl (fun e2 => ?_) (fun e2 => ?_)<;>first|replace e2:=not_t e2|replace e2:=not_f e2
    case refine_2 => exact absurd e2 e0
    repeat first|(apply x1;apply r0;apply r0)|(apply x5;apply r0)|(apply x9;apply r0)
    refine tsame_c hg.wf hg.wf (by with_reducible repeat exact q1 ‹_›) (by with_reducible assumption) ?_
    rw [same_selfG]
    repeat first|(apply x1;apply r0;apply r0)|apply w4|apply wd|apply w5|apply we
    exact rt1 (H' := H) rfl rfl (.refl _) (by repeat assumption) hK
  have hLc := clean_law (b := b) hg hO e0
  apply w6
  refine aw_cutS (fun F' H' => Fr.sub [(4, .b tr), (5, .sl (encBytes b) .no), (8, .ptr b8 0), (14, .ptr t 0), (16, .ptr u 0), (18, .i O.2.1)] F' ∧ Y.sub H') ?_ ?_
  · repeat first|(apply x1;apply r0;apply r0)|apply w6|apply w7
    refine s_gsplit rfl rfl (fun e1 => ?_) (fun e1 => ?_)<;>first|replace e1:=not_t e1|replace e1:=not_f e1
    · exact absurd e0 e1
    have o3 := (hO.ok e0).2.2
    cases tr with
    | true =>
      repeat first|(apply x1;apply r0;apply r0)|(apply x5;apply r0)|apply w4|(apply w3;apply r0;apply r0)|(apply w9;apply r0)|apply wa|apply w5
      exact ⟨(by repeat (first | exact Fr.sub_nil _ | refine Fr.sub_cons rfl ?_)), AHeap.sub_refl _⟩
    | false =>
      rw [if_neg (by decide)] at o3
      repeat first|(apply x1;apply r0;apply r0)|(apply x5;apply r0)|(apply x9;apply r0)
      refine tsame_c hgO.wf hg.wf (by with_reducible repeat exact q1 ‹_›) (by with_reducible assumption) ?_
      rw [o3, same_selfG]
      repeat first|(apply x1;apply r0;apply r0)|(apply x5;apply r0)|apply w4|(apply w9;apply r0)|apply wa|apply w5
      exact ⟨(by repeat (first | exact Fr.sub_nil _ | refine Fr.sub_cons rfl ?_)), AHeap.sub_refl _⟩
  rintro F' H' ⟨hF, hH⟩
  refine AW_sub ?_ hF hH
  clear hF hH
  repeat first|(apply x1;apply r0;apply r0)|(apply x2;apply r0;(with_reducible assumption);apply r0)|(apply x9;apply r0)|apply w6|apply w7
  refine writeAt_c hgO hc hb0 (by with_reducible assumption) ?_
  generalize O.1.writeF c O.2.1 0 b = W at hLc ⊢
  generalize O.2.1 = i at hLc ⊢
  obtain ⟨hgW, hst, hrest⟩ := hLc
  repeat first|(apply x1;apply r0;apply r0)|(apply x9;apply r0)|apply w4|apply w6|apply w7|apply w5
  refine tget_c hg.wf (by with_reducible repeat first|assumption|apply q3) ?_
  repeat (apply x1;apply r0;apply r0)
  refine s_alloc tk rfl rfl rfl (fun b21 hb21 => ?_); have hb := hb21; (try simp only [put_none_iff, prot_none_iff] at hb); (repeat obtain ⟨_, _, hb⟩ := hb)
  have n21t : b21 ≠ t := by
    have h9 : (Y.put t (.cells (encTab W.1))) b21 = none := by assumption
    exact Ne.symm (get_ne (put_same _ _ _) h9)
  repeat first|(apply x1;apply r0;apply r0)|(apply xst;apply r0;(apply ps);apply r0)|(apply x9;apply r0)|apply w4|apply w6|apply w7|apply w5
  refine tget_c hgW.wf (by with_reducible repeat first|assumption|apply q0|apply q3) ?_
  repeat (apply x1;apply r0;apply r0)
  refine s_alloc tk rfl rfl rfl (fun b23 hb23 => ?_); have hb := hb23; (try simp only [put_none_iff, prot_none_iff] at hb); (repeat obtain ⟨_, _, hb⟩ := hb)
  repeat (apply gO;first|(apply x1;apply r0;apply r0)|((first|apply x2|apply xst);apply r0;(with_reducible repeat first|assumption|apply q0|apply ps|exact q1 ‹_›|exact q2 ‹_›|apply q4|apply pg|apply q3|apply gp|apply gq|exact n1 ‹_› ‹_›|exact n2 ‹_› ‹_›|exact n3 ‹_› ‹_›|exact n4 ‹_› ‹_›|apply nm1|exact nm0|exact mm0|apply mm1);apply r0)|((first|apply x3|apply x5|apply x8|apply xbd|apply xbs|apply x9);apply r0)|apply w4|(apply w3;apply r0;apply r0)|((first|apply x6|apply x7);apply r0;omega))
  first | apply w7 | apply w5 | apply wl | apply wg | apply we | apply wf | apply wh | apply wj | apply wm | apply wn | apply wa | apply wd | apply wb | apply wc | apply wk
  generalize hZ : AHeap.put _ b23 _ = Z
  have zT : Rd Z t (encTab W.1) := by rw [← hZ]; exact (by apply rd_eq;(focus with_reducible repeat first|assumption|apply q0|apply q3);rfl)
  have zU : Rd Z u (encTab T) := by rw [← hZ]; exact (by apply rd_eq;(focus with_reducible repeat first|assumption|apply q3|exact n1 ‹_› ‹_›);rfl)
  have zr8 : Rd Z b8 (encCred c) := by rw [← hZ]; exact (by apply rd_eq;(focus with_reducible repeat first|assumption|apply q3|exact n1 ‹_› ‹_›);rfl)
  have zr21 : Rd Z b21 (encNode (T.at i)) := by rw [← hZ]; exact (by apply rd_eq;(focus with_reducible repeat first|assumption|apply q0|apply q3);rfl)
  have zr23 : Rd Z b23 (encNode (W.1.at i)) := by rw [← hZ]; exact (by apply rd_eq;(focus apply q0);rfl)
  have zs : H.sub Z := by rw [← hZ]; exact (by repeat first|assumption|(apply su1;assumption)|(apply su3;assumption;assumption))
  clear hZ
  obtain ⟨ch, hch⟩ : ∃ ch : Bool, ch = (tr || (decide (W.2 = 0) && decide (0 < (b.size : Int)))) := ⟨_, rfl⟩
  have hst' := hst ch (by rw [hch]; simp)
  apply w6
  refine aw_cutS (fun F' H' => Fr.sub [(8, .ptr b8 0), (14, .ptr t 0), (16, .ptr u 0), (18, .i i), (21, .ptr b21 0), (23, .ptr b23 0), (25, .b ch)] F' ∧ Z.sub H') ?_ ?_
  · cases tr with
    | true =>
      rw [show ch = true by rw [hch]; rfl]
      repeat first|(apply x1;apply r0;apply r0)|apply w4|(apply w3;apply r0;apply r0)|apply w7|apply w5
      exact ⟨(by repeat (first | exact Fr.sub_nil _ | refine Fr.sub_cons rfl ?_)), AHeap.sub_refl _⟩
    | false =>
      repeat first|(apply x1;apply r0;apply r0)|(apply x5;apply r0)|apply w7
      refine s_gsplit rfl rfl (fun v1 => ?_) (fun v1 => ?_)<;>first|replace v1:=of_decide_eq_true v1|replace v1:=of_decide_eq_false v1
      · rw [show ch = decide (0 < (((encBytes b).length : Nat) : Int)) by rw [hch, hlb, decide_eq_true v1]; rfl]
        repeat first|(apply x1;apply r0;apply r0)|(apply x5;apply r0)|apply w4|apply w5
        exact ⟨(by repeat (first | exact Fr.sub_nil _ | refine Fr.sub_cons rfl ?_)), AHeap.sub_refl _⟩
      · rw [show ch = false by rw [hch, decide_eq_false v1]; rfl]
        repeat first|(apply x1;apply r0;apply r0)|(apply x5;apply r0)|apply w4|(apply w3;apply r0;apply r0)|apply w5
        exact ⟨(by repeat (first | exact Fr.sub_nil _ | refine Fr.sub_cons rfl ?_)), AHeap.sub_refl _⟩
  rintro F' H' ⟨hF, hH⟩
  refine AW_sub ?_ hF hH
  clear hF hH hch hst
  apply w6
  refine aw_cutS (fun F' H' => Fr.sub [(8, .ptr b8 0), (14, .ptr t 0), (16, .ptr u 0), (18, .i i), (21, .ptr b21 0), (23, .ptr b23 0), (25, .b ch)] F' ∧ Z.sub H') ?_ ?_
  · cases ch with
    | false =>
      repeat first|(apply gO;first|(apply x1;apply r0;apply r0)|apply w4|(apply w3;apply r0;apply r0))|(apply gW;first|apply w6|apply w7|(apply w9;apply r0)|apply wa)|apply w5
      exact ⟨(by repeat (first | exact Fr.sub_nil _ | refine Fr.sub_cons rfl ?_)), AHeap.sub_refl _⟩
    | true =>
      repeat first|(apply x1;apply r0;apply r0)|(apply x2;apply r0;(with_reducible assumption);apply r0)|(apply x5;apply r0)|apply w6|apply w7
      refine s_gsplit rfl rfl (fun v2 => ?_) (fun v2 => ?_)<;>first|replace v2:=not_t v2|replace v2:=not_f v2
      · have hcl := hst'.clean rfl v2
        repeat first|(apply x1;apply r0;apply r0)|(apply x2;apply r0;(with_reducible assumption);apply r0)|(apply x5;apply r0)
        refine s_bits rfl rfl rfl rfl ?_
        repeat first|(apply x1;apply r0;apply r0)|(apply x5;apply r0)
        refine s_gsplit rfl rfl (fun v3 => ?_) (fun v3 => ?_)<;>first|replace v3:=not_t v3|replace v3:=not_f v3
        · exact absurd hcl.1 v3
        repeat first|(apply x1;apply r0;apply r0)|(apply x2;apply r0;(with_reducible assumption);apply r0)|(apply x5;apply r0)
        refine s_bits rfl rfl rfl rfl ?_
        repeat first|(apply x1;apply r0;apply r0)|(apply x5;apply r0)
        refine s_gsplit rfl rfl (fun v4 => ?_) (fun v4 => ?_)<;>first|replace v4:=not_t v4|replace v4:=not_f v4
        · repeat first|(apply x1;apply r0;apply r0)|(apply x2;apply r0;(with_reducible assumption);apply r0)|(apply x5;apply r0)
          refine s_bits rfl rfl rfl rfl ?_
          repeat first|(apply x1;apply r0;apply r0)|(apply x5;apply r0)|apply w4|apply w5
          refine aw_cond rfl (fun v5 => ?_) (fun v5 => ?_)<;>first|replace v5:=not_t v5|replace v5:=not_f v5
          · exact absurd (hcl.2.resolve_left v4) v5
          repeat first|apply wa|apply w5
          exact ⟨(by repeat (first | exact Fr.sub_nil _ | refine Fr.sub_cons rfl ?_)), AHeap.sub_refl _⟩
        · repeat first|(apply x1;apply r0;apply r0)|(apply x5;apply r0)|apply w4|(apply w3;apply r0;apply r0)|(apply w9;apply r0)|apply wa|apply w5
          exact ⟨(by repeat (first | exact Fr.sub_nil _ | refine Fr.sub_cons rfl ?_)), AHeap.sub_refl _⟩
      · repeat first|(apply x1;apply r0;apply r0)|apply w4|(apply w3;apply r0;apply r0)|(apply w9;apply r0)|apply wa|apply w5
        exact ⟨(by repeat (first | exact Fr.sub_nil _ | refine Fr.sub_cons rfl ?_)), AHeap.sub_refl _⟩
  rintro F' H' ⟨hF, hH⟩
  refine AW_sub ?_ hF hH
  clear hF hH
  apply w6
  refine aw_cutS (fun F' H' => Fr.sub [(14, .ptr t 0), (16, .ptr u 0), (18, .i i)] F' ∧ Z.sub H') ?_ ?_
  · repeat first|(apply x1;apply r0;apply r0)|(apply x2;apply r0;(with_reducible assumption);apply r0)|apply w6|apply w7
    refine s_bits rfl rfl rfl rfl ?_
    repeat first|(apply x1;apply r0;apply r0)|(apply x2;apply r0;(with_reducible assumption);apply r0)
    refine s_bits rfl rfl rfl rfl ?_
    repeat (apply x1;apply r0;apply r0)
    refine s_gsplit rfl rfl (fun v1 => ?_) (fun v1 => ?_)<;>first|replace v1:=not_t v1|replace v1:=not_f v1
    · exact absurd hst'.rest v1
    repeat first|(apply x1;apply r0;apply r0)|(apply x2;apply r0;(with_reducible assumption);apply r0)|(apply x5;apply r0)
    refine s_gsplit rfl rfl (fun v2 => ?_) (fun v2 => ?_)<;>first|replace v2:=not_t v2|replace v2:=not_f v2
    · exact absurd hst'.uid v2
    repeat first|(apply x1;apply r0;apply r0)|(apply x2;apply r0;(with_reducible assumption);apply r0)|(apply x5;apply r0)
    refine s_gsplit rfl rfl (fun v3 => ?_) (fun v3 => ?_)<;>first|replace v3:=not_t v3|replace v3:=not_f v3
    · exact absurd hst'.gid v3
    repeat first|(apply x1;apply r0;apply r0)|(apply x2;apply r0;(with_reducible assumption);apply r0)|(apply x5;apply r0)
    refine s_gsplit rfl rfl (fun v4 => ?_) (fun v4 => ?_)<;>first|replace v4:=of_decide_eq_true v4|replace v4:=of_decide_eq_false v4
    · repeat first|(apply x1;apply r0;apply r0)|(apply x2;apply r0;(with_reducible assumption);apply r0)|(apply x5;apply r0)
      refine s_gsplit rfl rfl (fun v5 => ?_) (fun v5 => ?_)<;>first|replace v5:=not_t v5|replace v5:=not_f v5
      · exact absurd (hst'.keep (.inr v4)) v5
      cases ch with
      | true =>
        repeat first|(apply x1;apply r0;apply r0)|(apply x5;apply r0)|apply w4|(apply w3;apply r0;apply r0)|(apply w9;apply r0)|apply wa|apply w5
        exact ⟨(by repeat (first | exact Fr.sub_nil _ | refine Fr.sub_cons rfl ?_)), AHeap.sub_refl _⟩
      | false =>
        repeat first|(apply x1;apply r0;apply r0)|(apply x2;apply r0;(with_reducible assumption);apply r0)|(apply x5;apply r0)|apply w4|apply w5
        refine aw_cond rfl (fun v6 => ?_) (fun v6 => ?_)<;>first|replace v6:=not_t v6|replace v6:=not_f v6
        · exact absurd (hst'.keep (.inl rfl)) v6
        repeat first|apply wa|apply w5
        exact ⟨(by repeat (first | exact Fr.sub_nil _ | refine Fr.sub_cons rfl ?_)), AHeap.sub_refl _⟩
    · cases ch with
      | true =>
        repeat first|(apply x1;apply r0;apply r0)|(apply x5;apply r0)|apply w4|(apply w3;apply r0;apply r0)|(apply w9;apply r0)|apply wa|apply w5
        exact ⟨(by repeat (first | exact Fr.sub_nil _ | refine Fr.sub_cons rfl ?_)), AHeap.sub_refl _⟩
      | false =>
        repeat first|(apply x1;apply r0;apply r0)|(apply x2;apply r0;(with_reducible assumption);apply r0)|(apply x5;apply r0)|apply w4|(apply w3;apply r0;apply r0)|apply w5
        refine aw_cond rfl (fun v6 => ?_) (fun v6 => ?_)<;>first|replace v6:=not_t v6|replace v6:=not_f v6
        · exact absurd (hst'.keep (.inl rfl)) v6
        repeat first|apply wa|apply w5
        exact ⟨(by repeat (first | exact Fr.sub_nil _ | refine Fr.sub_cons rfl ?_)), AHeap.sub_refl _⟩
  rintro F' H' ⟨hF, hH⟩
  refine AW_sub ?_ hF hH
  clear hF hH
  have h24 := hgW.wf.2.1
  repeat first|(apply x1;apply r0;apply r0)|apply w4|apply w6|apply w7|apply wb|apply w5
  refine aw_loop (fun k : Nat => k = 0 ∨ (k : Int) ≤ W.1.room) (fun k => [(14, .ptr t 0), (16, .ptr u 0), (18, .i i), (26, .i ((k : Int) + 1))]) (fun _ => Z) (fun k => W.1.room.toNat - k) 0 (.inl rfl) (by repeat (first | exact Fr.sub_nil _ | refine Fr.sub_cons rfl ?_)) (AHeap.sub_refl _) ?_
  intro k hk
  repeat first|(apply x1;apply r0;apply r0)|(apply x9;apply r0)|apply w6|apply w7
  refine room_c (by with_reducible assumption) ?_
  repeat first|(apply x1;apply r0;apply r0)|apply w4|apply w5
  refine aw_cond rfl (fun c1 => ?_) (fun c1 => ?_)<;>first|replace c1:=of_decide_eq_true c1|replace c1:=of_decide_eq_false c1
  case refine_2 =>
    repeat first|(apply gO;first|(apply x1;apply r0;apply r0)|apply w4)|(apply gW;first|apply w6|apply w7|apply wd|apply wc)|apply w5|apply wf|apply wh
    exact rt1 (H' := H) rfl rfl (.refl _) (by repeat assumption) hK
  have c1' : (k : Int) + 1 ≤ W.1.room := by omega
  have hkk : (((k + 1 : Nat) : Int)) = (k : Int) + 1 := by omega
  have fa := at_few hg ((k : Int) + 1)
  have hr := hrest ((k : Int) + 1)
  repeat first|(apply x1;apply r0;apply r0)|(apply x9;apply r0)|apply w6|apply w7|apply wa|apply wb|apply w5
  refine tget_c hg.wf (by with_reducible assumption) ?_
  repeat (apply x1;apply r0;apply r0)
  refine s_alloc tk rfl rfl rfl (fun b27 hb27 => ?_); have hb := hb27; (try simp only [put_none_iff, prot_none_iff] at hb); (repeat obtain ⟨_, _, hb⟩ := hb)
  repeat first|(apply x1;apply r0;apply r0)|(apply xst;apply r0;(apply ps);apply r0)|(apply x9;apply r0)|apply w4|apply w6|apply w7|apply w5
  refine tget_c hgW.wf (by with_reducible repeat first|assumption|apply q3|exact n1 ‹_› ‹_›) ?_
  repeat (apply x1;apply r0;apply r0)
  refine s_alloc tk rfl rfl rfl (fun b29 hb29 => ?_); have hb := hb29; (try simp only [put_none_iff, prot_none_iff] at hb); (repeat obtain ⟨_, _, hb⟩ := hb)
  repeat first|(apply x1;apply r0;apply r0)|(apply xst;apply r0;(apply ps);apply r0)|apply w4|apply w6|apply w7|apply w5
  refine s_gsplit rfl rfl (fun e1 => ?_) (fun e1 => ?_)<;>first|replace e1:=not_t e1|replace e1:=not_f e1
  · rw [hr e1]
    repeat first|(apply x2;apply r0;(with_reducible repeat first|assumption|apply q0|apply q3);apply r0)|(apply x5;apply r0)|(apply x9;apply r0)
    refine same_c fa.small ?_
    rw [same_refl]
    repeat first|(apply gO;first|(apply x1;apply r0;apply r0)|(apply x5;apply r0)|apply w4|(apply x6;apply r0;omega))|(apply gW;first|apply w7|(apply w9;apply r0)|apply wa)|apply w5|apply wg
    exact ⟨k + 1, by omega, by omega, (by repeat (first | exact Fr.sub_nil _ | refine Fr.sub_cons rfl ?_)), (by repeat first|exact s0|(apply su1;assumption))⟩
  · repeat first|(apply gO;first|(apply x1;apply r0;apply r0)|apply w4|(apply w3;apply r0;apply r0)|(apply x6;apply r0;omega))|(apply gW;first|apply w7|(apply w9;apply r0)|apply wa)|apply w5|apply wg
    exact ⟨k + 1, by omega, by omega, (by repeat (first | exact Fr.sub_nil _ | refine Fr.sub_cons rfl ?_)), (by repeat first|exact s0|(apply su1;assumption))⟩
end Abs
end Go.Proofs.Ytpifnlodilcgkaa
