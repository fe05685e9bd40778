import Derived.Test.YtpmnfbgnlanpoaaW2
import Derived.Test.YtpmnfbgnlanpoaaGC
import Derived.Test.YtpmnfbgnlanpoaaY1
import Derived.Test.YtpmnfbgnlanpoaaZ7
import Derived.Test.YtpmnfbgnlanpoaaZ8
set_option linter.unusedVariables false
namespace Go.Proofs.Ytpmnfbgnlanpoaa
namespace Abs
set_option maxRecDepth 10000
/-! ### PlantNeeds: plain law -/
theorem shut_all : ∀ a : Fin 64, ∀ b : Fin 64, bitsR .and .i64 ((64 * a.val + b.val : Nat) : Int) 18 = 0 → ¬ bitsR .and .i64 (clsBits ((64 * a.val + b.val : Nat) : Int) 1) (3 % 8) = 3 % 8 ∧ ¬ bitsR .and .i64 (clsBits ((64 * a.val + b.val : Nat) : Int) 2) (3 % 8) = 3 % 8 := by decide +kernel
theorem shut {c : Cred} {uid gid m : Int} (h : 0 ≤ m ∧ m ≤ 4095) (h0 : ¬ c.uid = 0) (h1 : ¬ c.uid = uid) (h2 : bitsR .and .i64 m 18 = 0) : c.can uid gid m 3 = false := by
  have h3 := shut_all ⟨m.toNat / 64, by omega⟩ ⟨m.toNat % 64, by omega⟩
  simp only at h3
  rw [show ((64 * (m.toNat / 64) + m.toNat % 64 : Nat) : Int) = m by omega] at h3
  obtain ⟨a1, a2⟩ := h3 h2
  unfold Cred.can Cred.root
  rw [decide_eq_false h0, Bool.false_or]
  unfold Cred.cls
  rw [if_neg (fun q => h1 q.symm)]
  split
  · exact decide_eq_false a1
  · exact decide_eq_false a2
def PartsJ (T : Tab) (c : Cred) (name : ByteArray) (r r' : Found × Int) : Prop :=
  (r.2 ≠ 0 → r'.2 ≠ 0) ∧ (r.2 = 0 → r.1.node = 0 → r'.2 ≠ 0) ∧ (r.2 = 0 → r.1.node ≠ 0 → r' = T.lastOf c name r.1.node)
theorem resolve_join {T : Tab} (hg : T.good) (ht : T.tree) {c : Cred} {p s : ByteArray} (hp : p ≠ ⟨#[]⟩) (h40 : p.size ≤ 40) (hn : nameOk s = true) : PartsJ T c s (T.resolve c p true) (T.resolve c (p ++ slashS ++ s) false) := by
  have hi := name_is hn
  by_cases hl : (byL p).getLast? = some 47
  case neg =>
    obtain ⟨a1, a2, a3⟩ := resolve_parts hg ht (c := c) hp h40 hl hn
    rw [join_eq hp hl] at a1 a2 a3
    exact ⟨fun q => by rw [a1 q]; exact q, fun q1 q2 => by rw [a2 q1 q2]; decide, a3⟩
  have hj2 : T.fitsE (p ++ slashS ++ s) = T.fitsE p := fits_join hp h40 hi
  by_cases hf0 : T.fitsE p = 0
  case neg =>
    unfold Tab.resolve
    rw [hj2, if_neg hf0, if_neg hf0]
    exact ⟨fun q => q, fun q => absurd q hf0, fun q => absurd q hf0⟩
  have hs : byL s ≠ [] := fun e => hi.ne (by rw [← ofL_byL s, e]; rfl)
  have hlast : (byL s).getLast? = some ((byL s).getLast hs) := List.getLast?_eq_some_getLast hs
  have htj : (byL (p ++ slashS ++ s)).getLast? ≠ some 47 := by
    rw [app_byL, List.getLast?_append, hlast]
    intro e
    have h2 : (byL s).getLast hs = 47 := by simpa using e
    exact has_not hi.slash _ (List.getLast_mem hs) h2
  have hsj : splitOf (p ++ slashS ++ s) = namesOf p ++ [s] := by rw [tail_none htj, names_join hi]
  have hsp : splitOf p = if (namesOf p).isEmpty = true then [] else namesOf p ++ [dotS] := by
    rw [splitOf_tail, tailOf, if_pos hl]
  have hS : ∀ l, (∀ x ∈ l, x ≠ (⟨#[]⟩ : ByteArray)) → Srch T c ⟨1, 0, l⟩ := fun l hl => ⟨has_kind'.2 (by rw [ht.root]; decide), fun _ => anc1 hg ht c, fun _ => ht.root, hl⟩
  have hnn : ∀ x ∈ namesOf p, x ≠ (⟨#[]⟩ : ByteArray) := fun x hx => by
    obtain ⟨y, hy, rfl⟩ := List.mem_map.1 hx
    exact fun e => splitL_ne _ _ _ hy ((ofL_nil y).1 e)
  have hRj : T.resolve c (p ++ slashS ++ s) false = T.walk c false 2000 ⟨1, 0, namesOf p ++ [s]⟩ := by unfold Tab.resolve; rw [hj2, if_pos hf0, hsj]
  have hRp : T.resolve c p true = T.walk c true 2000 ⟨1, 0, splitOf p⟩ := by unfold Tab.resolve; rw [if_pos hf0]
  have mj := start_m (path := p ++ slashS ++ s) (by rw [hj2]; exact hf0) 1
  rw [hsj] at mj
  have mp := start_m hf0 1
  rw [hRj, hRp]
  rw [hsp] at mp ⊢
  by_cases he : (namesOf p).isEmpty = true
  · rw [if_pos he]
    have h0 : namesOf p = [] := List.isEmpty_iff.1 he
    rw [h0, List.nil_append, walk_end (s := ⟨1, 0, []⟩) rfl]
    exact ⟨fun q => absurd rfl q, fun _ q => absurd (show (1 : Int) = 0 from q) (by decide), fun _ _ => walk_last hi⟩
  · rw [if_neg he] at mp ⊢
    have hml : RSt.m ⟨1, 0, namesOf p⟩ < 2000 := by
      have : RSt.m ⟨1, 0, namesOf p⟩ ≤ RSt.m ⟨1, 0, namesOf p ++ [dotS]⟩ := by
        show (8 - 0) * 110 + (namesOf p).length ≤ (8 - 0) * 110 + (namesOf p ++ [dotS]).length
        rw [List.length_append]; omega
      omega
    have hA := walk_parts hg ht (c := c) hi 2000 1 0 (namesOf p) 2000 2000 (hS _ hnn) (Nat.zero_le _) hml hml mj
    have hB := walk_dotp hg ht (c := c) 2000 1 0 (namesOf p) 2000 2000 (hS _ hnn) (Nat.zero_le _) hml hml mp
    generalize T.walk c true 2000 ⟨1, 0, namesOf p⟩ = r0' at hA hB
    obtain ⟨a1, a2, a3⟩ := hA
    obtain ⟨b1, b2, b3⟩ := hB
    by_cases z0 : r0'.2 = 0
    · by_cases z1 : r0'.1.node = 0
      · have e1 := b2 z0 z1
        exact ⟨fun _ => by rw [a2 z0 z1]; decide, fun q => absurd (e1.symm.trans q) (by decide), fun q => absurd (e1.symm.trans q) (by decide)⟩
      · rw [a3 z0 z1, b3 z0 z1]
        unfold Tab.dotOf Tab.lastOf
        by_cases k1 : ¬ (T.at r0'.1.node).kind = 2
        · rw [if_pos k1, if_pos k1]
          exact ⟨fun q => q, fun q => absurd (show (20 : Int) = 0 from q) (by decide), fun q => absurd (show (20 : Int) = 0 from q) (by decide)⟩
        rw [if_neg k1, if_neg k1]
        by_cases k2 : T.can c r0'.1.node 1 = false
        · rw [if_pos k2, if_pos k2]
          exact ⟨fun q => q, fun q => absurd (show (13 : Int) = 0 from q) (by decide), fun q => absurd (show (13 : Int) = 0 from q) (by decide)⟩
        rw [if_neg k2, if_neg k2]
        refine ⟨fun q => absurd rfl q, fun _ q => absurd q z1, fun _ _ => ?_⟩
        unfold Tab.lastOf
        rw [if_neg k1, if_neg k2]
    · rw [a1 z0, b1 z0]
      exact ⟨fun q => q, fun q => absurd q z0, fun q => absurd q z0⟩
structure NeedsLaw (c : Cred) (S B : Stat × Int) (x y z : Int) (n : Int → Node) : Prop where
  eqy : y = x
  eqz : z = x
  there : B.2 = 0 → ¬ B.1.node = 0 → x = 17
  shut : S.2 = 0 → S.1.kind = 2 → ¬ c.uid = 0 → ¬ c.uid = (n S.1.node).uid → bitsR .and .i64 (n S.1.node).mode 18 = 0 → ¬ x = 0
  none : ¬ S.2 = 0 → ¬ x = 0
theorem plantE_err {T : Tab} {c : Cred} {r : Found × Int} (h : r.2 ≠ 0) : T.plantE c r ≠ 0 := by
  unfold Tab.plantE
  rw [if_pos h]; exact h
theorem needs_law {T : Tab} (hg : T.good) (ht : T.tree) {c : Cred} {umask mode : Int} {dir name : ByteArray} (hd : dir ≠ ⟨#[]⟩) (h30 : dir.size ≤ 30) (hn : nameOk name = true) :
    NeedsLaw c (T.look c dir true) (T.look c (dir ++ slashS ++ name) false) (T.plant c (T.resolve c (dir ++ slashS ++ name) false) (dirN mode umask)).2.2 (T.symlink c ⟨#[113]⟩ (dir ++ slashS ++ name)).2
      (T.plant c (T.resolve c (dir ++ slashS ++ name) false) (fun _ => fileN mode umask)).2.2 (T.plant c (T.resolve c (dir ++ slashS ++ name) false) (dirN mode umask)).1.at := by
  obtain ⟨j1, j2, j3⟩ := resolve_join hg ht (c := c) hd (by omega) hn
  have eqx := plant_errM hg c (T.resolve c (dir ++ slashS ++ name) false) (dirN mode umask) (fun d h1 h2 => dir_made c mode umask d h1 h2)
  have eqy := plant_errM hg c (T.resolve c (dir ++ slashS ++ name) false) (fun _ => linkN ⟨#[113]⟩) (fun d h1 h2 => link_made c d h2)
  have eqz := plant_errM hg c (T.resolve c (dir ++ slashS ++ name) false) (fun _ => fileN mode umask) (fun d h1 h2 => file_made c mode umask d h2)
  refine ⟨by rw [symlink_q, eqx]; exact eqy, by rw [eqz, eqx], fun hB hBn => ?_, fun hS hSk u0 u1 m0 hx => ?_, fun hS => ?_⟩
  · rw [eqx]
    unfold Tab.look at hB hBn
    unfold Tab.plantE
    by_cases h1 : (T.resolve c (dir ++ slashS ++ name) false).2 = 0
    · rw [if_pos h1] at hB hBn
      by_cases h2 : T.has (T.resolve c (dir ++ slashS ++ name) false).1.node = true
      · rw [if_neg (fun q => q h1), if_pos (fun q => absurd (has_rng h2).1 (by omega))]
      · rw [if_neg h2] at hBn; exact absurd rfl hBn
    · rw [if_neg h1] at hB; exact absurd hB h1
  · obtain ⟨p1, p2, p3⟩ := plant_ok hg c _ _ hx
    unfold Tab.look at hS hSk u1 m0
    by_cases h1 : (T.resolve c dir true).2 = 0
    case neg => rw [if_neg h1] at hS; exact absurd hS h1
    rw [if_pos h1] at hS hSk u1 m0
    by_cases h2 : T.has (T.resolve c dir true).1.node = true
    case neg => rw [if_neg h2] at hS; exact absurd (show (2 : Int) = 0 from hS) (by decide)
    rw [if_pos h2] at hS hSk u1 m0
    have hr := j3 h1 (by have := (has_rng h2).1; omega)
    generalize (T.resolve c dir true).1.node = i at *
    have hst : (T.stat i).node = i ∧ (T.stat i).kind = (T.at i).kind := by unfold Tab.stat; rw [if_pos h2]; exact ⟨rfl, rfl⟩
    simp only [hst.1, hst.2] at hSk u1 m0
    obtain ⟨l, hl⟩ := plant_kind p3 (i := i) (fun q => by have := p3.new; rw [← q, h2] at this; cases this)
    rw [hl] at u1 m0
    unfold Tab.lastOf at hr
    rw [if_neg (fun q => q hSk)] at hr
    by_cases k2 : T.can c i 1 = false
    · rw [if_pos k2] at hr; rw [hr] at p1; exact absurd (show (13 : Int) = 0 from p1) (by decide)
    rw [if_neg k2] at hr
    rw [eqx, hr] at hx
    rw [hr] at p2
    unfold Tab.plantE at hx
    have h4 := (ok_idsW (at_okW hg h2)).1
    have hc : T.can c i 3 = false := by
      unfold Tab.can
      rw [h2, Bool.true_and]
      exact shut h4 u0 u1 m0
    rw [if_neg (fun q => q rfl), if_neg (fun q => q p2), if_pos hc] at hx
    exact absurd hx (by decide)
  · rw [eqx]
    refine plantE_err ?_
    unfold Tab.look at hS
    by_cases h1 : (T.resolve c dir true).2 = 0
    · rw [if_pos h1] at hS
      by_cases h2 : T.has (T.resolve c dir true).1.node = true
      · rw [if_pos h2] at hS; exact absurd rfl hS
      · by_cases h3 : (T.resolve c dir true).1.node = 0
        · exact j2 h1 h3
        · rw [j3 h1 h3]
          unfold Tab.lastOf
          rw [if_pos (by rw [at_none (by simpa using h2)]; decide)]
          decide
    · exact j1 h1
end Abs
end Go.Proofs.Ytpmnfbgnlanpoaa

set_option linter.unusedVariables false
namespace Go.Proofs.Ytpmnfbgnlanpoaa
namespace Abs
set_option linter.unusedSimpArgs false
set_option maxRecDepth 10000
set_option maxHeartbeats 2000000
attribute [local irreducible] AOps AW AP ACalls thenQ inBlk noGoto

/-! ### PlantNeeds -/
theorem plantNeeds_c {room : Int} {l : List Raw} (hl : l.length ≤ 9223372036854775807) {c : Cred} {umask : Int} {dir name : ByteArray} {mode : Int} {H : AHeap} {K : AVal → AHeap → Prop} (hK : K (.b true) H) :
    ACalls Try.prog 4 [.i room, .sl (encRaws l) .no, .agg (encCred c), .i umask, .s dir, .s name, .i mode] H K := by
  refine acalls_body Try.func4 rfl rfl rfl ?_
  repeat first|apply w6|apply w7
  refine s_box rfl rfl rfl (fun b9 hb9 => ?_); have hb := hb9; (try simp only [put_none_iff, prot_none_iff] at hb); (repeat obtain ⟨_, _, hb⟩ := hb)
  repeat first|(apply x1;apply r0;apply r0)|(apply x9;apply r0)|apply w4|apply w6|apply w7|apply w5
  refine awake14_c ?_
  repeat first|(apply gO;first|(apply x1;apply r0;apply r0)|(apply x2;apply r0;(apply q0);apply r0)|(apply x9;apply r0)|apply w4)|(apply gW;first|apply w6|apply w7|(apply w9;apply r0)|apply wa)|apply w5
  refine built14_c hl ?_ (fun T t hB ht => ?_)
  · repeat first|(apply gO;first|(apply x1;apply r0;apply r0)|apply w4|(apply w3;apply r0;apply r0))|(apply gW;first|apply w6|apply w7|(apply w8;apply r0)|apply wd)|apply w5|apply we
    exact rt1 (H' := H) rfl rfl (.refl _) (by repeat first|exact s0|(apply su1;assumption)) hK
  have hg := hB.good
  have hc := hB.small
  have htr := build_tree hB.tree
  have nb7 : b9 ≠ t := by
    have := (put_none_iff.1 ht)
    exact this.2.1
  have ht' : H t = none := (put_none_iff.1 ht).2.2
  repeat first|(apply x1;apply r0;apply r0)|(apply x5;apply r0)|apply w4|apply w6|apply w7|apply w5
  refine s_gsplit rfl rfl (fun g1 => ?_) (fun g1 => ?_)<;>first|replace g1:=of_decide_eq_true g1|replace g1:=of_decide_eq_false g1
  · repeat first|(apply gO;first|(apply x1;apply r0;apply r0)|apply w4|(apply w3;apply r0;apply r0))|(apply gW;first|apply w6|apply w7|(apply w8;apply r0)|apply wd)|apply w5|apply we
    exact rt1 (H' := H) rfl rfl (.refl _) (by repeat first|exact s0|(apply su1;assumption)) hK
  repeat first|(apply x1;apply r0;apply r0)|(apply x5;apply r0)
  refine s_gsplit rfl rfl (fun g2 => ?_) (fun g2 => ?_)<;>first|replace g2:=of_decide_eq_true g2|replace g2:=of_decide_eq_false g2
  · repeat first|(apply gO;first|(apply x1;apply r0;apply r0)|apply w4|(apply w3;apply r0;apply r0))|(apply gW;first|apply w6|apply w7|(apply w8;apply r0)|apply wd)|apply w5|apply we
    exact rt1 (H' := H) rfl rfl (.refl _) (by repeat first|exact s0|(apply su1;assumption)) hK
  repeat first|(apply x1;apply r0;apply r0)|(apply x5;apply r0)|(apply x9;apply r0)
  refine name_c ?_
  cases hnm : nameOk name with
  | false =>
    repeat first|(apply gO;first|(apply x1;apply r0;apply r0)|(apply x5;apply r0)|apply w4|(apply w3;apply r0;apply r0))|(apply gW;first|apply w6|apply w7|(apply w8;apply r0)|apply wd)|apply w5|apply we
    exact rt1 (H' := H) rfl rfl (.refl _) (by repeat first|exact s0|(apply su1;assumption)) hK
  | true =>
    repeat first|(apply x1;apply r0;apply r0)|(apply x5;apply r0)|apply w4|apply w5
    refine aw_cond rfl (fun g4 => ?_) (fun g4 => ?_)<;>first|replace g4:=of_decide_eq_true g4|replace g4:=of_decide_eq_false g4
    · repeat first|(apply x1;apply r0;apply r0)|apply w4|apply w6|apply w7|apply wd|apply w5|apply we
      exact rt1 (H' := H) rfl rfl (.refl _) (by repeat first|exact s0|(apply su1;assumption)) hK
    have hL := needs_law hg htr (c := c) (umask := umask) (mode := mode) (dir := dir) (name := name) g4 (by omega) hnm
    have hsl : (dir ++ slashS).size = dir.size + 1 := ByteArray.size_append
    have MARK : True := trivial
    repeat first|(apply x1;apply r0;apply r0)|apply w6|apply w7|apply wa|apply w5
    refine s_cat rfl rfl rfl (show dir.size + slashS.size ≤ 9223372036854775807 from ?_) ?_
    · rw [← ByteArray.size_append, hsl]; omega
    rw [show dir ++ (⟨#[47]⟩ : ByteArray) = dir ++ slashS from rfl]
    repeat (apply x1;apply r0;apply r0)
    refine s_cat rfl rfl rfl (by rw [hsl]; omega) ?_
    generalize dir ++ slashS ++ name = path at hL ⊢
    repeat first|(apply x1;apply r0;apply r0)|(apply x2;apply r0;(with_reducible repeat first|assumption|apply q0|apply q3);apply r0)|(apply x9;apply r0)|apply w4|apply w6|apply w7|apply w5
    refine lstat_c hg hc (by apply q0) ?_
    generalize T.look c dir true = S at hL ⊢
    repeat (apply x1;apply r0;apply r0)
    refine s_alloc tk rfl rfl rfl (fun b19 hb19 => ?_); have hb := hb19; (try simp only [put_none_iff, prot_none_iff] at hb); (repeat obtain ⟨_, _, hb⟩ := hb)
    repeat first|(apply gO;first|(apply x1;apply r0;apply r0)|(apply x2;apply r0;(with_reducible repeat first|assumption|apply q0|apply ps|apply q3);apply r0)|(apply xst;apply r0;(with_reducible repeat first|assumption|apply q0|apply ps|apply q3);apply r0)|(apply x9;apply r0)|apply w4)|(apply gW;first|apply w6|apply w7)|apply w5
    refine llstat_c hg hc (by with_reducible repeat first|assumption|apply q0|apply q3) ?_
    generalize T.look c path false = B at hL ⊢
    repeat (apply x1;apply r0;apply r0)
    refine s_alloc tk rfl rfl rfl (fun b21 hb21 => ?_); have hb := hb21; (try simp only [put_none_iff, prot_none_iff] at hb); (repeat obtain ⟨_, _, hb⟩ := hb)
    repeat first|(apply x1;apply r0;apply r0)|(apply xst;apply r0;(apply ps);apply r0)|(apply x9;apply r0)|apply w4|apply w6|apply w7|apply w5
    have n19t : b19 ≠ t := by
      have h9 : (H.put b9 (.cells (encCred c))).put t (.cells (encTab T)) b19 = none := by assumption
      exact Ne.symm (get_ne (put_same _ _ _) h9)
    refine clone_c hg.wf (by with_reducible repeat first|assumption|apply q0|apply q3) (fun u hu => ?_)
    generalize hX : AHeap.put _ b21 _ = X at hu ⊢
    have xT : X t = some (.cells (encTab T)) := by rw [← hX]; exact (by apply get_eq;(focus with_reducible repeat first|assumption|apply ps|apply gp);rfl)
    have xr9 : Rd X b9 (encCred c) := by rw [← hX]; exact (by apply rd_eq;(focus with_reducible repeat first|assumption|apply q0|apply q3);rfl)
    have xr19 : Rd X b19 (encSt S.1) := by rw [← hX]; exact (by apply rd_eq;(focus with_reducible repeat first|assumption|apply q0|apply q3);rfl)
    have xr21 : Rd X b21 (encSt B.1) := by rw [← hX]; exact (by apply rd_eq;(focus apply q0);rfl)
    have xss : H.sub X := by rw [← hX]; exact (by repeat first|exact s0|(apply su1;assumption))
    clear hX
    have ntu : t ≠ u := get_ne xT hu
    have n9u : b9 ≠ u := rd_ne xr9 hu
    have n19u : b19 ≠ u := rd_ne xr19 hu
    have n21u : b21 ≠ u := rd_ne xr21 hu
    have fu : H u = none := sub_none xss hu
    generalize hX2 : AHeap.put _ u _ = X2
    have zT : X2 t = some (.cells (encTab T)) := by rw [← hX2]; exact (by apply get_eq;(focus with_reducible repeat first|assumption|apply gp);rfl)
    have zu : X2 u = some (.cells (encTab T)) := by rw [← hX2]; exact (by apply get_eq;(focus apply ps);rfl)
    have z9 : Rd X2 b9 (encCred c) := by rw [← hX2]; exact (by apply rd_eq;(focus with_reducible repeat first|assumption|apply q3);rfl)
    have z19 : Rd X2 b19 (encSt S.1) := by rw [← hX2]; exact (by apply rd_eq;(focus with_reducible repeat first|assumption|apply q3);rfl)
    have z21 : Rd X2 b21 (encSt B.1) := by rw [← hX2]; exact (by apply rd_eq;(focus with_reducible repeat first|assumption|apply q3);rfl)
    have zs : H.sub X2 := by rw [← hX2]; exact (by repeat first|assumption|(apply su1;assumption))
    clear hX2
    repeat first|(apply x1;apply r0;apply r0)|(apply x9;apply r0)|apply w4|apply w6|apply w7|apply w5
    refine clone_c hg.wf (by with_reducible repeat exact q1 ‹_›) (fun v hv => ?_)
    have ntv : t ≠ v := get_ne zT hv
    have nuv : u ≠ v := get_ne zu hv
    have n9v : b9 ≠ v := rd_ne z9 hv
    have n19v : b19 ≠ v := rd_ne z19 hv
    have n21v : b21 ≠ v := rd_ne z21 hv
    have fv : H v = none := sub_none zs hv
    have nut : u ≠ t := Ne.symm ntu
    have nvt : v ≠ t := Ne.symm ntv
    have nvu : v ≠ u := Ne.symm nuv
    generalize hX3 : AHeap.put _ v _ = X3
    have vT : X3 t = some (.cells (encTab T)) := by rw [← hX3]; exact (by apply get_eq;(focus with_reducible repeat first|assumption|apply gp);rfl)
    have vu : X3 u = some (.cells (encTab T)) := by rw [← hX3]; exact (by apply get_eq;(focus with_reducible repeat first|assumption|apply gp);rfl)
    have vv : X3 v = some (.cells (encTab T)) := by rw [← hX3]; exact (by apply get_eq;(focus apply ps);rfl)
    have v9 : Rd X3 b9 (encCred c) := by rw [← hX3]; exact (by apply rd_eq;(focus with_reducible repeat first|assumption|apply q3);rfl)
    have v19 : Rd X3 b19 (encSt S.1) := by rw [← hX3]; exact (by apply rd_eq;(focus with_reducible repeat first|assumption|apply q3);rfl)
    have v21 : Rd X3 b21 (encSt B.1) := by rw [← hX3]; exact (by apply rd_eq;(focus with_reducible repeat first|assumption|apply q3);rfl)
    have vs : H.sub X3 := by rw [← hX3]; exact (by repeat first|assumption|(apply su1;assumption))
    clear hX3
    have MARK2 : True := trivial
    repeat first|(apply x1;apply r0;apply r0)|(apply x2;apply r0;(with_reducible assumption);apply r0)|(apply x9;apply r0)|apply w4|apply w6|apply w7|apply w5
    refine mkdir_c hg hc (by with_reducible assumption) ?_
    have hgA := plant_good hg c (T.resolve c path false) (dirN mode umask)
    generalize T.plant c (T.resolve c path false) (dirN mode umask) = A at hL hgA ⊢
    repeat first|(apply x1;apply r0;apply r0)|(apply x2;apply r0;(with_reducible repeat first|assumption|apply q3);apply r0)|(apply x9;apply r0)|apply w4|apply w6|apply w7|apply w5
    refine symlink_c (target := ⟨#[113]⟩) hg hc (by with_reducible repeat first|assumption|apply gp) ?_
    generalize T.symlink c ⟨#[113]⟩ path = Q at hL ⊢
    repeat first|(apply x1;apply r0;apply r0)|(apply x2;apply r0;(with_reducible repeat first|assumption|apply q3);apply r0)|(apply x9;apply r0)|apply w4|apply w6|apply w7|apply w5
    refine create_c hg hc (by with_reducible repeat first|assumption|apply gp) ?_
    generalize T.plant c (T.resolve c path false) (fun _ => fileN mode umask) = Z at hL ⊢
    obtain ⟨l1, l2, l3, l4, l5⟩ := hL
    rw [l1, l2]
    generalize hY : AHeap.put _ v _ = Y
    have yT : Rd Y t (encTab A.1) := by rw [← hY]; exact (by apply rd_eq;(focus with_reducible repeat first|assumption|apply q0|apply q3);rfl)
    have yr9 : Rd Y b9 (encCred c) := by rw [← hY]; exact (by apply rd_eq;(focus with_reducible repeat first|assumption|apply q3);rfl)
    have yr19 : Rd Y b19 (encSt S.1) := by rw [← hY]; exact (by apply rd_eq;(focus with_reducible repeat first|assumption|apply q3);rfl)
    have yr21 : Rd Y b21 (encSt B.1) := by rw [← hY]; exact (by apply rd_eq;(focus with_reducible repeat first|assumption|apply q3);rfl)
    have ys : H.sub Y := by rw [← hY]; exact (by repeat first|assumption|(apply su1;assumption))
    clear hY
    generalize A.2.2 = x at l3 l4 l5 ⊢
    repeat first|(apply x1;apply r0;apply r0)|apply w4|apply w6|apply w7|apply w5
    rw [show decide (x = x) = true from decide_eq_true rfl]
    repeat first|(apply x1;apply r0;apply r0)|(apply x5;apply r0)|apply w4|(apply w3;apply r0;apply r0)|apply w5
    refine aw_cond rfl (fun e0 => ?_) (fun e0 => ?_)<;>first|replace e0:=not_t e0|replace e0:=not_f e0
    · exact absurd rfl e0
    repeat first|(apply x1;apply r0;apply r0)|apply w6|apply w7|apply wa|apply w5
    refine s_gsplit rfl rfl (fun e1 => ?_) (fun e1 => ?_)<;>first|replace e1:=of_decide_eq_true e1|replace e1:=of_decide_eq_false e1
    · repeat first|(apply x1;apply r0;apply r0)|(apply x2;apply r0;(with_reducible assumption);apply r0)|(apply x5;apply r0)|apply w4|apply w5
      refine aw_cond rfl (fun e2 => ?_) (fun e2 => ?_)<;>first|replace e2:=not_t e2|replace e2:=not_f e2
      · rw [l3 e1 e2]
        repeat first|(apply x1;apply r0;apply r0)|apply w4|apply w6|apply w7|apply wd|apply w5|apply we
        exact rt1 (H' := H) rfl rfl (.refl _) (by repeat assumption) hK
      have MARK3 : True := trivial
      repeat first|(apply x1;apply r0;apply r0)|apply w6|apply w7|apply wa|apply w5
      refine s_gsplit rfl rfl (fun e3 => ?_) (fun e3 => ?_)<;>first|replace e3:=of_decide_eq_true e3|replace e3:=of_decide_eq_false e3
      case refine_2 =>
        repeat first|(apply gO;first|(apply x1;apply r0;apply r0)|apply w4|(apply w3;apply r0;apply r0))|(apply gW;first|apply w6|apply w7|(apply w9;apply r0)|apply wa)|apply w5
        refine s_gsplit rfl rfl (fun e4 => ?_) (fun e4 => ?_)<;>first|replace e4:=of_decide_eq_true e4|replace e4:=of_decide_eq_false e4
        · exact absurd e4 e3
        repeat first|(apply x1;apply r0;apply r0)|(apply x5;apply r0)|apply w4|apply wd|apply w5
        refine rt1 (H' := H) rfl rfl (.refl _) (by repeat assumption) ?_
        rw [decide_eq_false (l5 e3)]
        exact hK
      repeat first|(apply x1;apply r0;apply r0)|(apply x2;apply r0;(with_reducible assumption);apply r0)|(apply x5;apply r0)|apply w4|apply w5
      refine aw_cond rfl (fun e4 => ?_) (fun e4 => ?_)<;>first|replace e4:=of_decide_eq_true e4|replace e4:=of_decide_eq_false e4
      case refine_2 =>
        repeat first|(apply x1;apply r0;apply r0)|apply w6|apply w7|apply wa|apply w5
        rw [decide_eq_true e3]
        repeat first|(apply x1;apply r0;apply r0)|apply w4|(apply w3;apply r0;apply r0)|apply wd|apply w5
        exact rt1 (H' := H) rfl rfl (.refl _) (by repeat assumption) hK
      have sA := at_few hgA S.1.node
      repeat first|(apply x1;apply r0;apply r0)|(apply x2;apply r0;(with_reducible assumption);apply r0)|(apply x9;apply r0)|apply w6|apply w7
      refine tget_c hgA.wf (by with_reducible assumption) ?_
      repeat (apply x1;apply r0;apply r0)
      refine s_alloc tk rfl rfl rfl (fun b29 hb29 => ?_); have hb := hb29; (try simp only [put_none_iff, prot_none_iff] at hb); (repeat obtain ⟨_, _, hb⟩ := hb)
      repeat first|(apply x1;apply r0;apply r0)|(apply x2;apply r0;(with_reducible repeat first|assumption|apply ps|apply q3|exact n1 ‹_› ‹_›);apply r0)|(apply xst;apply r0;(with_reducible repeat first|assumption|apply ps|apply q3|exact n1 ‹_› ‹_›);apply r0)|apply w4|apply w6|apply w7|apply w5
      generalize A.1.at S.1.node = n at l4 sA ⊢
      refine s_gsplit rfl rfl (fun e5 => ?_) (fun e5 => ?_)<;>first|replace e5:=not_t e5|replace e5:=not_f e5
      case refine_2 =>
        repeat first|(apply gO;first|(apply x1;apply r0;apply r0)|apply w4|(apply w3;apply r0;apply r0))|(apply gW;first|apply w6|apply w7|(apply w9;apply r0)|apply wa)|apply w5
        rw [decide_eq_true e3]
        repeat first|(apply x1;apply r0;apply r0)|apply w4|(apply w3;apply r0;apply r0)|apply wd|apply w5
        exact rt1 (H' := H) rfl rfl (.refl _) (by repeat first|assumption|(apply su3;assumption;assumption)) hK
      repeat first|(apply x1;apply r0;apply r0)|(apply x2;apply r0;(with_reducible repeat first|assumption|apply q0|apply q3|exact n1 ‹_› ‹_›);apply r0)|(apply x5;apply r0)
      refine s_gsplit rfl rfl (fun e6 => ?_) (fun e6 => ?_)<;>first|replace e6:=not_t e6|replace e6:=not_f e6
      case refine_2 =>
        repeat first|(apply gO;first|(apply x1;apply r0;apply r0)|apply w4|(apply w3;apply r0;apply r0))|(apply gW;first|apply w6|apply w7|(apply w9;apply r0)|apply wa)|apply w5
        rw [decide_eq_true e3]
        repeat first|(apply x1;apply r0;apply r0)|apply w4|(apply w3;apply r0;apply r0)|apply wd|apply w5
        exact rt1 (H' := H) rfl rfl (.refl _) (by repeat first|assumption|(apply su3;assumption;assumption)) hK
      repeat first|(apply x1;apply r0;apply r0)|(apply x2;apply r0;(apply q0);apply r0)|(apply x5;apply r0)
      refine s_bits rfl rfl rfl rfl ?_
      repeat first|(apply x1;apply r0;apply r0)|(apply x5;apply r0)|apply w4|apply w5
      refine aw_cond rfl (fun e7 => ?_) (fun e7 => ?_)<;>first|replace e7:=of_decide_eq_true e7|replace e7:=of_decide_eq_false e7
      · have hx := l4 e3 e4 e5 e6 e7
        repeat first|(apply x1;apply r0;apply r0)|apply w4|apply w6|apply w7|apply wd|apply w5|apply we
        refine rt1 (H' := H) rfl rfl (.refl _) (by repeat first|assumption|(apply su3;assumption;assumption)) ?_
        rw [decide_eq_false hx]
        exact hK
      repeat first|(apply x1;apply r0;apply r0)|apply w6|apply w7|apply wa|apply w5
      rw [decide_eq_true e3]
      repeat first|(apply x1;apply r0;apply r0)|apply w4|(apply w3;apply r0;apply r0)|apply wd|apply w5
      exact rt1 (H' := H) rfl rfl (.refl _) (by repeat first|assumption|(apply su3;assumption;assumption)) hK
    repeat first|(apply gO;first|(apply x1;apply r0;apply r0)|apply w4|(apply w3;apply r0;apply r0))|(apply gW;first|apply w6|apply w7|(apply w9;apply r0)|apply wa)|apply w5
    refine s_gsplit rfl rfl (fun e3 => ?_) (fun e3 => ?_)<;>first|replace e3:=of_decide_eq_true e3|replace e3:=of_decide_eq_false e3
    case refine_2 =>
      repeat first|(apply gO;first|(apply x1;apply r0;apply r0)|apply w4|(apply w3;apply r0;apply r0))|(apply gW;first|apply w6|apply w7|(apply w9;apply r0)|apply wa)|apply w5
      refine s_gsplit rfl rfl (fun e4 => ?_) (fun e4 => ?_)<;>first|replace e4:=of_decide_eq_true e4|replace e4:=of_decide_eq_false e4
      · exact absurd e4 e3
      repeat first|(apply x1;apply r0;apply r0)|(apply x5;apply r0)|apply w4|apply wd|apply w5
      refine rt1 (H' := H) rfl rfl (.refl _) (by repeat assumption) ?_
      rw [decide_eq_false (l5 e3)]
      exact hK
    repeat first|(apply x1;apply r0;apply r0)|(apply x2;apply r0;(with_reducible assumption);apply r0)|(apply x5;apply r0)|apply w4|apply w5
    refine aw_cond rfl (fun e4 => ?_) (fun e4 => ?_)<;>first|replace e4:=of_decide_eq_true e4|replace e4:=of_decide_eq_false e4
    case refine_2 =>
      repeat first|(apply x1;apply r0;apply r0)|apply w6|apply w7|apply wa|apply w5
      rw [decide_eq_true e3]
      repeat first|(apply x1;apply r0;apply r0)|apply w4|(apply w3;apply r0;apply r0)|apply wd|apply w5
      exact rt1 (H' := H) rfl rfl (.refl _) (by repeat assumption) hK
    have sA := at_few hgA S.1.node
    repeat first|(apply x1;apply r0;apply r0)|(apply x2;apply r0;(with_reducible assumption);apply r0)|(apply x9;apply r0)|apply w6|apply w7
    refine tget_c hgA.wf (by with_reducible assumption) ?_
    repeat (apply x1;apply r0;apply r0)
    refine s_alloc tk rfl rfl rfl (fun b29 hb29 => ?_); have hb := hb29; (try simp only [put_none_iff, prot_none_iff] at hb); (repeat obtain ⟨_, _, hb⟩ := hb)
    repeat first|(apply x1;apply r0;apply r0)|(apply x2;apply r0;(with_reducible repeat first|assumption|apply ps|apply q3|exact n1 ‹_› ‹_›);apply r0)|(apply xst;apply r0;(with_reducible repeat first|assumption|apply ps|apply q3|exact n1 ‹_› ‹_›);apply r0)|apply w4|apply w6|apply w7|apply w5
    generalize A.1.at S.1.node = n at l4 sA ⊢
    refine s_gsplit rfl rfl (fun e5 => ?_) (fun e5 => ?_)<;>first|replace e5:=not_t e5|replace e5:=not_f e5
    case refine_2 =>
      repeat first|(apply gO;first|(apply x1;apply r0;apply r0)|apply w4|(apply w3;apply r0;apply r0))|(apply gW;first|apply w6|apply w7|(apply w9;apply r0)|apply wa)|apply w5
      rw [decide_eq_true e3]
      repeat first|(apply x1;apply r0;apply r0)|apply w4|(apply w3;apply r0;apply r0)|apply wd|apply w5
      exact rt1 (H' := H) rfl rfl (.refl _) (by repeat first|assumption|(apply su3;assumption;assumption)) hK
    repeat first|(apply x1;apply r0;apply r0)|(apply x2;apply r0;(with_reducible repeat first|assumption|apply q0|apply q3|exact n1 ‹_› ‹_›);apply r0)|(apply x5;apply r0)
    refine s_gsplit rfl rfl (fun e6 => ?_) (fun e6 => ?_)<;>first|replace e6:=not_t e6|replace e6:=not_f e6
    case refine_2 =>
      repeat first|(apply gO;first|(apply x1;apply r0;apply r0)|apply w4|(apply w3;apply r0;apply r0))|(apply gW;first|apply w6|apply w7|(apply w9;apply r0)|apply wa)|apply w5
      rw [decide_eq_true e3]
      repeat first|(apply x1;apply r0;apply r0)|apply w4|(apply w3;apply r0;apply r0)|apply wd|apply w5
      exact rt1 (H' := H) rfl rfl (.refl _) (by repeat first|assumption|(apply su3;assumption;assumption)) hK
    repeat first|(apply x1;apply r0;apply r0)|(apply x2;apply r0;(apply q0);apply r0)|(apply x5;apply r0)
    refine s_bits rfl rfl rfl rfl ?_
    repeat first|(apply x1;apply r0;apply r0)|(apply x5;apply r0)|apply w4|apply w5
    refine aw_cond rfl (fun e7 => ?_) (fun e7 => ?_)<;>first|replace e7:=of_decide_eq_true e7|replace e7:=of_decide_eq_false e7
    · have hx := l4 e3 e4 e5 e6 e7
      repeat first|(apply x1;apply r0;apply r0)|apply w4|apply w6|apply w7|apply wd|apply w5|apply we
      refine rt1 (H' := H) rfl rfl (.refl _) (by repeat first|assumption|(apply su3;assumption;assumption)) ?_
      rw [decide_eq_false hx]
      exact hK
    repeat first|(apply x1;apply r0;apply r0)|apply w6|apply w7|apply wa|apply w5
    rw [decide_eq_true e3]
    repeat first|(apply x1;apply r0;apply r0)|apply w4|(apply w3;apply r0;apply r0)|apply wd|apply w5
    exact rt1 (H' := H) rfl rfl (.refl _) (by repeat first|assumption|(apply su3;assumption;assumption)) hK
end Abs
end Go.Proofs.Ytpmnfbgnlanpoaa
