import Derived.Test.YtpifnlodilcgkaaHE
import Derived.Test.YtpifnlodilcgkaaGU
import Derived.Test.YtpifnlodilcgkaaW1
import Derived.Test.YtpifnlodilcgkaaXL
set_option linter.unusedVariables false
namespace Go.Proofs.Ytpifnlodilcgkaa
namespace Abs
set_option maxRecDepth 10000
/-! ### FilesMakes: plain law -/
theorem sameTo_selfH (T : Tab) : ∀ k : Nat, T.sameTo T k = true
  | 0 => rfl
  | k + 1 => by simp only [Tab.sameTo, sameTo_selfH T k, same_refl, Bool.and_self]
theorem same_selfH (T : Tab) : T.same T = true := sameTo_selfH T 24
theorem plant_id0 {T : Tab} (hg : T.good) (c : Cred) (r : Found × Int) (mk : Node → Node) (h : ¬ (T.plant c r mk).2.2 = 0) : (T.plant c r mk).2.1 = 0 := by
  unfold Tab.plant at h ⊢
  by_cases h1 : ¬ r.2 = 0
  · rw [if_pos h1]
  rw [if_neg h1] at h ⊢
  by_cases h2 : ¬ r.1.node = 0
  · rw [if_pos h2]
  rw [if_neg h2] at h ⊢
  by_cases h3 : T.can c r.1.dir 3 = false
  · rw [if_pos h3]
  rw [if_neg h3] at h ⊢
  by_cases h4 : 8 ≤ ((T.at r.1.dir).ents.length : Int)
  · rw [if_pos h4]
  rw [if_neg h4] at h ⊢
  by_cases h5 : T.used = T.room
  · rw [if_pos h5]
  rw [if_neg h5] at h ⊢
  generalize madeIn c (T.at r.1.dir) (mk (T.at r.1.dir)) = m at h ⊢
  have hh : T.has r.1.dir = true := can_has (by simpa using h3)
  rcases add_cases T m with ⟨k, hf, hok, ha⟩ | ⟨hf, hok, ha⟩ | ⟨hok, ha⟩
  · rw [ha, if_neg (fun q => q rfl)] at h ⊢
    simp only at h ⊢
    by_cases h6 : ¬ (T.at r.1.dir).withE r.1.name ((k : Int) + 1) = 0
    · rw [if_pos h6]
    · rw [if_neg h6] at h
      have h6' : (T.at r.1.dir).withE r.1.name ((k : Int) + 1) = 0 := Decidable.of_not_not h6
      obtain ⟨j1, j2⟩ := add_has hg hf hok
      obtain ⟨j3, j4, j5⟩ := j2 r.1.dir hh
      obtain ⟨p1, -⟩ := put_with (T := T.put k m) (put_good hg (.inr hok) k) (p := r.1.dir) j3 (name := r.1.name) (id := (k : Int) + 1) (by rw [j5]; exact h6')
      rw [j5] at p1
      rw [p1] at h
      exact absurd rfl h
  · rw [ha, if_pos (show ¬ (28 : Int) = 0 by decide)]
  · rw [ha, if_pos (show ¬ (22 : Int) = 0 by decide)]
theorem flags14 : flagsOk 14 = true ∧ hasF 14 40 = true ∧ hasF 14 4 = true ∧ hasF 14 8 = true := by decide +kernel
theorem open14 (T : Tab) (c : Cred) (umask mode : Int) (r : Found × Int) : T.openF c umask r 14 mode = if ¬ r.2 = 0 then (T, 0, r.2) else if T.has r.1.node = false then T.plant c r (fun _ => fileN mode umask) else (T, 0, 17) := by
  unfold Tab.openF
  rw [flags14.1, if_neg (show ¬ true = false by decide), flags14.2.2.1, flags14.2.2.2, if_neg (show ¬ true = false by decide), if_pos (show true = true from rfl)]
structure MakesLaw (T : Tab) (c : Cred) (umask mode : Int) (g : Int) (R : Tab × Int × Int) (S : Stat × Int) (Z : Tab × Int × Int) : Prop where
  good : R.1.good
  there : g = 0 → R = (T, 0, 17)
  err : ¬ g = 0 → ¬ R.2.2 = 0 → R.1 = T ∧ R.2.1 = 0
  ok : ¬ g = 0 → R.2.2 = 0 → g = 2 ∧ (∃ gid links, S = (⟨R.2.1, 1, bitsR .andNot .i64 (bitsR .and .i64 mode 511) umask, c.uid, gid, links, 0⟩, 0)) ∧ Z = (R.1, 0, 17)
theorem makes_law {T : Tab} (hg : T.good) (ht : T.tree) (c : Cred) (umask mode : Int) (path : ByteArray) :
    MakesLaw T c umask mode (T.look c path false).2 (T.openF c umask (T.resolve c path (!hasF 14 40)) 14 mode) ((T.openF c umask (T.resolve c path (!hasF 14 40)) 14 mode).1.look c path false)
      ((T.openF c umask (T.resolve c path (!hasF 14 40)) 14 mode).1.openF c umask ((T.openF c umask (T.resolve c path (!hasF 14 40)) 14 mode).1.resolve c path (!hasF 14 40)) 14 mode) := by
  have hgR := good_openF hg c umask (T.resolve c path (!hasF 14 40)) 14 mode
  rw [flags14.2.1, show (!true) = false from rfl] at hgR ⊢
  rw [open14 T] at hgR ⊢
  by_cases h1 : ¬ (T.resolve c path false).2 = 0
  · have hl : (T.look c path false).2 = (T.resolve c path false).2 := by
      unfold Tab.look; rw [if_neg h1]
    rw [if_pos h1] at hgR ⊢
    rw [hl]
    exact ⟨hgR, fun q => absurd q h1, fun _ _ => ⟨rfl, rfl⟩, fun _ q => absurd q h1⟩
  rw [if_neg h1] at hgR ⊢
  have h1' : (T.resolve c path false).2 = 0 := Decidable.of_not_not h1
  by_cases h2 : T.has (T.resolve c path false).1.node = false
  · have hl : (T.look c path false).2 = 2 := by
      unfold Tab.look; rw [if_pos h1', if_neg (by rw [h2]; decide)]
    rw [if_pos h2] at hgR ⊢
    rw [hl]
    refine ⟨hgR, fun q => absurd q (by decide), fun _ q => ⟨plant_none hg _ _ _ q, plant_id0 hg _ _ _ q⟩, fun _ q => ⟨rfl, ?_, ?_⟩⟩
    all_goals
      have hf := plant_found hg ht (mk := fun _ => fileN mode umask) (fun _ => rfl) q
      obtain ⟨a1, a2, a3⟩ := plant_ok hg c _ (fun _ => fileN mode umask) q
      generalize (T.plant c (T.resolve c path false) (fun _ => fileN mode umask)).1 = U at *
      generalize (T.plant c (T.resolve c path false) (fun _ => fileN mode umask)).2.1 = id at *
      generalize (T.resolve c path false).1 = r at *
      have hat : U.at id = madeIn c (T.at r.dir) (fileN mode umask) := by rw [a3.at_, if_neg (fun q => a3.ne q.symm), if_pos rfl]
      have hid : U.has id = true := has_kind'.2 (by rw [hat]; exact ok_kind a3.ok)
    · refine ⟨(U.at id).gid, U.links id, ?_⟩
      unfold Tab.look
      rw [hf, if_pos (show ((⟨r.dir, r.name, id⟩, 0) : Found × Int).2 = 0 from rfl), if_pos hid]
      unfold Tab.stat
      rw [if_pos hid, hat, and511]
      rfl
    · rw [open14, hf, if_neg (fun q => q rfl), if_neg (by rw [hid]; decide)]
  · have h2' : T.has (T.resolve c path false).1.node = true := by simpa using h2
    have hl : (T.look c path false).2 = 0 := by
      unfold Tab.look; rw [if_pos h1', if_pos h2']
    rw [if_neg h2] at hgR ⊢
    rw [hl]
    exact ⟨hgR, fun _ => rfl, fun q => absurd rfl q, fun q => absurd rfl q⟩
end Abs
end Go.Proofs.Ytpifnlodilcgkaa

set_option linter.unusedVariables false
namespace Go.Proofs.Ytpifnlodilcgkaa
namespace Abs
set_option linter.unusedSimpArgs false
set_option maxRecDepth 10000
set_option maxHeartbeats 2000000
attribute [local irreducible] AOps AW AP ACalls thenQ inBlk noGoto

/-! ### FilesMakes -/
theorem filesMakes_c {room : Int} {l : List Raw} (hl : l.length ≤ 9223372036854775807) {c : Cred} {umask : Int} (hu : 0 ≤ umask ∧ umask ≤ 65535) {path : ByteArray} {mode : Int} (hm : 0 ≤ mode ∧ mode ≤ 65535) {H : AHeap} {K : AVal → AHeap → Prop} (hK : K (.b true) H) :
    ACalls Try.prog 5 [.i room, .sl (encRaws l) .no, .agg (encCred c), .sc (.int .u16 umask), .s path, .sc (.int .u16 mode)] H K := by
  refine acalls_body Try.func5 rfl rfl rfl ?_
  repeat first|apply w6|apply w7
  refine s_box rfl rfl rfl (fun b8 hb8 => ?_); have hb := hb8; (try simp only [put_none_iff, prot_none_iff] at hb); (repeat obtain ⟨_, _, hb⟩ := hb)
  repeat first|(apply x1;apply r0;apply r0)|(apply x9;apply r0)|apply w4|apply w6|apply w7|apply w5
  refine awake16_c ?_
  repeat first|(apply gO;first|(apply x1;apply r0;apply r0)|(apply x2;apply r0;(apply q0);apply r0)|(apply x9;apply r0)|apply w4)|(apply gW;first|apply w6|apply w7|(apply w9;apply r0)|apply wa)|apply w5
  refine built16_c hl ?_ (fun T t hB ht => ?_)
  · repeat first|(apply gO;first|(apply x1;apply r0;apply r0)|apply w4|(apply w3;apply r0;apply r0))|(apply gW;first|apply w6|apply w7|(apply w8;apply r0)|apply wd)|apply w5|apply we
    exact rt1 (H' := H) rfl rfl (.refl _) (by repeat first|exact s0|(apply su1;assumption)) hK
  have hg := hB.good
  have hc := hB.small
  have htr := build_tree hB.tree
  have nb7 : b8 ≠ t := by
    have := (put_none_iff.1 ht)
    exact this.2.1
  have ht' : H t = none := (put_none_iff.1 ht).2.2
  repeat first|(apply x1;apply r0;apply r0)|(apply x5;apply r0)|apply w4|apply w6|apply w7|apply w5
  refine aw_cond rfl (fun g1 => ?_) (fun g1 => ?_)<;>first|replace g1:=of_decide_eq_true g1|replace g1:=of_decide_eq_false g1
  · repeat first|(apply x1;apply r0;apply r0)|apply w4|apply w6|apply w7|apply wd|apply w5|apply we
    exact rt1 (H' := H) rfl rfl (.refl _) (by repeat first|exact s0|(apply su1;assumption)) hK
  repeat first|(apply x1;apply r0;apply r0)|(apply x9;apply r0)|apply w6|apply w7|apply wa|apply w5
  refine clone_c hg.wf (by apply q0) (fun u hu0 => ?_)
  generalize hX : AHeap.put _ t _ = X at hu0 ⊢
  have xT' : X t = some (.cells (encTab T)) := by rw [← hX]; exact (by apply get_eq;(focus apply ps);rfl)
  have x9' : Rd X b8 (encCred c) := by rw [← hX]; exact (by apply rd_eq;(focus with_reducible repeat first|assumption|apply q0|apply q3);rfl)
  have xss : H.sub X := by rw [← hX]; exact (by repeat first|exact s0|(apply su1;assumption))
  clear hX
  have fu : H u = none := sub_none xss hu0
  have ntu : t ≠ u := get_ne xT' hu0
  have nut : u ≠ t := Ne.symm ntu
  have n9u : b8 ≠ u := rd_ne x9' hu0
  generalize hX2 : AHeap.put _ u _ = X2
  have zT2 : X2 t = some (.cells (encTab T)) := by rw [← hX2]; exact (by apply get_eq;(focus with_reducible repeat first|assumption|apply gp);rfl)
  have z92 : Rd X2 b8 (encCred c) := by rw [← hX2]; exact (by apply rd_eq;(focus with_reducible repeat first|assumption|apply q3);rfl)
  have zu2 : X2 u = some (.cells (encTab T)) := by rw [← hX2]; exact (by apply get_eq;(focus apply ps);rfl)
  have zs2 : H.sub X2 := by rw [← hX2]; exact (by repeat first|assumption|(apply su1;assumption))
  clear hX2
  have hLaw := makes_law hg htr c umask mode path
  repeat first|(apply x1;apply r0;apply r0)|(apply x2;apply r0;(with_reducible assumption);apply r0)|(apply x9;apply r0)|apply w4|apply w6|apply w7|apply w5
  refine llstat_c hg hc (by with_reducible repeat exact q1 ‹_›) ?_
  generalize T.look c path false = g at hLaw ⊢
  repeat (apply x1;apply r0;apply r0)
  refine s_alloc tk rfl rfl rfl (fun b17 hb17 => ?_); have hb := hb17; (try simp only [put_none_iff, prot_none_iff] at hb); (repeat obtain ⟨_, _, hb⟩ := hb)
  have n17t : b17 ≠ t := Ne.symm (get_ne zT2 hb)
  have n17u : b17 ≠ u := Ne.symm (get_ne zu2 hb)
  have f17 : X2 b17 = none := hb
  repeat first|(apply x1;apply r0;apply r0)|(apply x2;apply r0;(with_reducible repeat first|assumption|apply ps|apply q3|exact n1 ‹_› ‹_›);apply r0)|(apply xst;apply r0;(with_reducible repeat first|assumption|apply ps|apply q3|exact n1 ‹_› ‹_›);apply r0)|apply w4|apply w6|apply w7|apply w5
  refine s_conv (r := umask) tk rfl rfl rfl rfl (wrap_id ⟨by omega, by omega⟩) ?_
  repeat (apply x1;apply r0;apply r0)
  refine s_conv (r := mode) tk rfl rfl rfl rfl (wrap_id ⟨by omega, by omega⟩) ?_
  repeat (apply x9;apply r0)
  refine open_c hg hc (by with_reducible repeat first|assumption|apply gp|exact n2 ‹_› ‹_›) ?_
  generalize T.openF c umask (T.resolve c path (!hasF 14 40)) 14 mode = R at hLaw ⊢
  obtain ⟨hgR, l1, l2, l3⟩ := hLaw
  generalize hY : AHeap.put _ t _ = Y
  have yT : Y t = some (.cells (encTab R.1)) := by rw [← hY]; exact (by apply get_eq;(focus apply ps);rfl)
  have yU : Rd Y u (encTab T) := by rw [← hY]; exact (by apply rd_eq;(focus with_reducible repeat first|assumption|exact q1 ‹_›|apply q3|exact n2 ‹_› ‹_›);rfl)
  have yr8 : Rd Y b8 (encCred c) := by rw [← hY]; exact (by apply rd_eq;(focus with_reducible repeat first|assumption|apply q3|exact n1 ‹_› ‹_›);rfl)
  have ys : H.sub Y := by rw [← hY]; exact (by repeat first|assumption|(apply su1;assumption)|(apply su3;assumption;assumption))
  clear hY
  repeat first|(apply x1;apply r0;apply r0)|apply w4|apply w6|apply w7|apply w5
  refine aw_cond rfl (fun e1 => ?_) (fun e1 => ?_)<;>first|replace e1:=of_decide_eq_true e1|replace e1:=of_decide_eq_false e1
  · have hR := l1 e1
    rw [hR] at yT ⊢
    repeat first|(apply x1;apply r0;apply r0)|(apply x5;apply r0)|(apply x9;apply r0)|apply w6|apply w7
    refine tsame_c hg.wf hg.wf (by with_reducible repeat exact q1 ‹_›) (by with_reducible assumption) ?_
    rw [same_selfH]
    repeat first|(apply x1;apply r0;apply r0)|apply w4|apply wd|apply w5|apply we
    exact rt1 (H' := H) rfl rfl (.refl _) (by repeat assumption) hK
  repeat first|(apply x1;apply r0;apply r0)|apply w4|apply w6|apply w7|apply wa|apply w5
  refine aw_cond rfl (fun e2 => ?_) (fun e2 => ?_)<;>first|replace e2:=not_t e2|replace e2:=not_f e2
  · obtain ⟨hR1, hR2⟩ := l2 e1 e2
    rw [hR1] at yT
    rw [hR2]
    repeat first|(apply x1;apply r0;apply r0)|(apply x9;apply r0)|apply w6|apply w7
    refine tsame_c hg.wf hg.wf (by with_reducible repeat exact q1 ‹_›) (by with_reducible assumption) ?_
    rw [same_selfH]
    repeat first|(apply x1;apply r0;apply r0)|(apply x5;apply r0)|apply w4|apply wd|apply w5|apply we
    exact rt1 (H' := H) rfl rfl (.refl _) (by repeat assumption) hK
  have e2' : R.2.2 = 0 := e2
  obtain ⟨hg2, ⟨gid, links, hS⟩, hZ⟩ := l3 e1 e2'
  rw [hg2]
  repeat first|(apply x1;apply r0;apply r0)|(apply x2;apply r0;(with_reducible assumption);apply r0)|(apply x9;apply r0)|apply w6|apply w7|apply wa|apply w5
  refine llstat_c hgR hc (by with_reducible repeat exact q1 ‹_›) ?_
  generalize R.1.look c path false = S at hS ⊢
  have hS1 : S.1 = ⟨R.2.1, 1, bitsR .andNot .i64 (bitsR .and .i64 mode 511) umask, c.uid, gid, links, 0⟩ := by rw [hS]
  have hS2 : S.2 = 0 := by rw [hS]
  clear hS
  rw [hS1, hS2]
  repeat (apply x1;apply r0;apply r0)
  refine s_alloc tk rfl rfl rfl (fun b21 hb21 => ?_); have hb := hb21; (try simp only [put_none_iff, prot_none_iff] at hb); (repeat obtain ⟨_, _, hb⟩ := hb)
  have n21t : b21 ≠ t := Ne.symm (get_ne yT hb)
  repeat first|(apply x1;apply r0;apply r0)|(apply xst;apply r0;(apply ps);apply r0)|(apply x9;apply r0)|apply w4|apply w6|apply w7|apply w5
  refine clone_c hgR.wf (by with_reducible repeat first|exact q1 ‹_›|apply q3|exact n2 ‹_› ‹_›) (fun v hv => ?_)
  generalize hW : AHeap.put _ b21 _ = W at hv ⊢
  have wT : W t = some (.cells (encTab R.1)) := by rw [← hW]; exact (by apply get_eq;(focus with_reducible repeat first|assumption|apply gp|exact n2 ‹_› ‹_›);rfl)
  have wr8 : Rd W b8 (encCred c) := by rw [← hW]; exact (by apply rd_eq;(focus with_reducible repeat first|assumption|apply q3|exact n1 ‹_› ‹_›);rfl)
  have wr21 : Rd W b21 (encSt ⟨R.2.1, 1, bitsR .andNot .i64 (bitsR .and .i64 mode 511) umask, c.uid, gid, links, 0⟩) := by rw [← hW]; exact (by apply rd_eq;(focus apply q0);rfl)
  have wss : H.sub W := by rw [← hW]; exact (by repeat first|assumption|(apply su3;assumption;assumption))
  clear hW
  have fv : H v = none := sub_none wss hv
  have ntv : t ≠ v := get_ne wT hv
  have nvt : v ≠ t := Ne.symm ntv
  have n8v : b8 ≠ v := rd_ne wr8 hv
  have n21v : b21 ≠ v := rd_ne wr21 hv
  repeat first|(apply x1;apply r0;apply r0)|(apply x2;apply r0;(with_reducible repeat first|assumption|apply q3);apply r0)|apply w4|apply w6|apply w7|apply w5
  refine s_conv (r := umask) tk rfl rfl rfl rfl (wrap_id ⟨by omega, by omega⟩) ?_
  repeat (apply x1;apply r0;apply r0)
  refine s_conv (r := mode) tk rfl rfl rfl rfl (wrap_id ⟨by omega, by omega⟩) ?_
  repeat (apply x9;apply r0)
  refine open_c hgR hc (by with_reducible repeat first|assumption|apply gp) ?_
  generalize R.1.openF c umask (R.1.resolve c path (!hasF 14 40)) 14 mode = Z at hZ ⊢
  have hZ1 : Z.1 = R.1 := by rw [hZ]
  have hZ2 : Z.2.2 = 17 := by rw [hZ]
  rw [hZ1, hZ2]
  repeat first|(apply x1;apply r0;apply r0)|(apply x2;apply r0;(with_reducible repeat first|assumption|apply q3);apply r0)|(apply x5;apply r0)|apply w4|apply w6|apply w7|apply w5
  refine s_gsplit rfl rfl (fun v1 => ?_) (fun v1 => ?_)<;>first|replace v1:=of_decide_eq_true v1|replace v1:=of_decide_eq_false v1
  case refine_2 => exact absurd rfl v1
  repeat first|(apply x1;apply r0;apply r0)|(apply x2;apply r0;(with_reducible repeat first|assumption|apply q3);apply r0)|(apply x5;apply r0)
  refine s_gsplit rfl rfl (fun v2 => ?_) (fun v2 => ?_)<;>first|replace v2:=of_decide_eq_true v2|replace v2:=of_decide_eq_false v2
  case refine_2 => exact absurd rfl v2
  repeat first|(apply x1;apply r0;apply r0)|(apply x2;apply r0;(with_reducible repeat first|assumption|apply q3);apply r0)|(apply x5;apply r0)
  refine s_conv (r := mode) tk rfl rfl rfl rfl (wrap_id ⟨by omega, by omega⟩) ?_
  repeat (apply x5;apply r0)
  refine s_bits rfl rfl rfl rfl ?_
  repeat first|(apply x1;apply r0;apply r0)|(apply x5;apply r0)
  refine s_conv (r := umask) tk rfl rfl rfl rfl (wrap_id ⟨by omega, by omega⟩) ?_
  repeat (apply x5;apply r0)
  refine s_bits rfl rfl rfl rfl ?_
  repeat first|(apply x1;apply r0;apply r0)|(apply x5;apply r0)
  refine s_gsplit rfl rfl (fun v3 => ?_) (fun v3 => ?_)<;>first|replace v3:=of_decide_eq_true v3|replace v3:=of_decide_eq_false v3
  case refine_2 => exact absurd rfl v3
  repeat first|(apply x1;apply r0;apply r0)|(apply x5;apply r0)|(apply x9;apply r0)
  refine tsame_c hgR.wf hgR.wf (by apply q0) (by with_reducible repeat first|assumption|apply q0|apply q3) ?_
  rw [same_selfH]
  repeat first|(apply x1;apply r0;apply r0)|(apply x5;apply r0)|apply w4|apply wd|apply w5
  exact rt1 (H' := H) rfl rfl (.refl _) (by repeat first|assumption|(apply su1;assumption)) hK
end Abs
end Go.Proofs.Ytpifnlodilcgkaa
