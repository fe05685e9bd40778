import Derived.Test.YtpmnfbgnlanpoaaGQ
import Derived.Test.YtpmnfbgnlanpoaaGS
import Derived.Test.YtpmnfbgnlanpoaaZ3
import Derived.Test.YtpmnfbgnlanpoaaXM
set_option linter.unusedVariables false
namespace Go.Proofs.Ytpmnfbgnlanpoaa
namespace Abs
/-! ### PruneMoved: plain law -/
theorem same_at {T U : Tab} (h : ∀ i, T.at i = U.at i) : T.same U = true := by
  have : ∀ k : Nat, T.sameTo U k = true := fun k => by
    induction k with
    | zero => rfl
    | succ k ih =>
      simp only [Tab.sameTo, ih, Bool.true_and]
      rw [show T.nd k = T.at ((k : Int) + 1) from rfl, show U.nd k = U.at ((k : Int) + 1) from rfl, h, same_refl]
  exact this 24
theorem look_of {T : Tab} {c : Cred} {path : ByteArray} {fo : Bool} {i : Int} (h0 : (T.resolve c path fo).2 = 0) (hn : (T.resolve c path fo).1.node = i) (hh : T.has i = true) : T.look c path fo = (T.stat i, 0) ∧ (T.stat i).node = i := by
  unfold Tab.look Tab.stat
  rw [if_pos h0, hn, hh, if_pos rfl]
  exact ⟨rfl, rfl⟩
theorem has0 (T : Tab) : T.has 0 = false := by cases hh : T.has 0 with | false => rfl | true => have := has_rng hh; omega
theorem one_name {T : Tab} (hg : T.good) {f : Found} (hP : TakeAt T f) (hl : T.links f.node = 1) {i : Int} {n : ByteArray} (hk : (T.at i).kind = 2) (hf : (T.at i).find n = f.node) : i = f.dir ∧ n = f.name := by
  have hf0 : (T.at i).find n ≠ 0 := by rw [hf]; exact hP.node
  obtain ⟨e, he, hn, hnode⟩ := find_has hf0
  by_cases h : i = f.dir ∧ n = f.name
  · exact h
  · exfalso
    obtain ⟨e1, o1, g1, r1, at1⟩ := cut_spec hg hP.wo
    have hc := cut_links hg hP.wo hP.find hP.node f.node
    rw [if_pos rfl, hl] at hc
    have : 0 < (T.cut f.dir f.name).links f.node := (links_pos g1.wf).2 ⟨i, e, by
      rw [at1]
      split
      · rename_i z
        rw [z] at he
        exact mem_rid.2 ⟨he, fun q => h ⟨z, by rw [← hn]; exact q⟩⟩
      · exact he, by rw [hnode, hf]⟩
    rw [hc] at this
    exact absurd this (by decide)
theorem moved_find {T U : Tab} {p q : Found} (hg : T.good) (h : MovedTo T U p q) {i : Int} {n : ByteArray} (hk : (T.at i).kind = 2) (hz : ¬ (i = q.node ∧ q.node ≠ 0 ∧ T.links q.node = 1)) (hq : q.node = 0) :
    (U.at i).find n = if i = q.dir ∧ n = q.name then p.node else if i = p.dir ∧ n = p.name then 0 else (T.at i).find n := by
  obtain ⟨l, hl⟩ := h.same i hz
  have hku : (U.at i).kind = 2 := by rw [hl]; exact hk
  have hru := (dir_rising h.good hku).2.2
  have hrt := (dir_rising hg hk).2.2
  by_cases z1 : i = q.dir ∧ n = q.name
  · rw [if_pos z1, z1.2]
    exact find_of_mem (e := ⟨q.name, p.node⟩) hru ((h.mem i _).2 (.inl ⟨z1.1, rfl⟩))
  rw [if_neg z1]
  by_cases z2 : i = p.dir ∧ n = p.name
  · rw [if_pos z2]
    refine (find_zero hru).2 (fun e he hn => ?_)
    rcases (h.mem i e).1 he with y | y
    · exact z1 ⟨y.1, by rw [← hn, y.2]⟩
    · exact y.2.1 ⟨z2.1, hn.trans z2.2⟩
  rw [if_neg z2]
  by_cases z3 : (T.at i).find n = 0
  · rw [z3]
    refine (find_zero hru).2 (fun e he hn => ?_)
    rcases (h.mem i e).1 he with y | y
    · exact z1 ⟨y.1, by rw [← hn, y.2]⟩
    · exact (find_zero hrt).1 z3 e y.1 hn
  · obtain ⟨e, he, hn, hnode⟩ := find_has z3
    have := find_of_mem hru ((h.mem i e).2 (.inr ⟨he, fun y => z2 ⟨y.1, by rw [← hn]; exact y.2⟩, fun y => y.1 hq⟩))
    rw [← hn, this, hnode, hn]
theorem moved_par {T U : Tab} {p q : Found} (hg : T.good) (ht : T.tree) (hP : TakeAt T p) (h : MovedTo T U p q) (hq : q.node = 0) {i : Int} (hk : (T.at i).kind = 2) (hi : i ≠ p.node) : U.parent i = T.parent i := by
  by_cases h1 : i = 1
  · rw [h1, parent1 hg ht]
    exact parent_none h.good.wf h.tree.top
  · obtain ⟨⟨e, hm, hn⟩, b2⟩ := tree_par hg ht hk h1
    refine one_parent h.good.wf ?_ ⟨e, (h.mem _ e).2 (.inr ⟨hm, fun z => hi ?_, fun z => z.1 hq⟩), hn⟩
    · rw [h.links, if_neg (fun z => z.1 hq), (ht.dirs i hk h1).1]; rfl
    · rw [z.1] at hm
      have h3 := find_of_mem (dir_rising hg hP.kind).2.2 hm
      rw [z.2, hP.find, hn] at h3
      exact h3.symm
theorem moved_keep {T U : Tab} {p q : Found} (hg : T.good) (ht : T.tree) (hP : TakeAt T p) (h : MovedTo T U p q) (hq : q.node = 0) (hqn : (T.at q.dir).find q.name = 0) : KeepW T U rootC q.dir q.name p.node p.dir p.name := by
  have hz : ∀ i, ¬ (i = q.node ∧ q.node ≠ 0 ∧ T.links q.node = 1) := fun i z => z.2.1 hq
  have hk : ∀ i, (U.at i).kind = (T.at i).kind := fun i => by obtain ⟨l, hl⟩ := h.same i (hz i); rw [hl]
  refine ⟨fun i _ => hk i, fun i _ => ?_, fun i hi => ?_, fun i n hki => moved_find hg h hki (hz i) hq, fun i hki hi => moved_par hg ht hP h hq hki hi, hqn, fun hka i n hki hf => ?_, hP.node⟩
  · obtain ⟨l, hl⟩ := h.same i (hz i); rw [hl]
  · rw [root_can, root_can, hi]; exact has_kind'.2 (by rw [hk]; exact has_kind'.1 hi)
  · exact one_name hg hP (ht.dirs _ hka (node_ne1 hg ht hP.ent)).1 hki hf
structure MovedLaw (T : Tab) (fr tg : ByteArray) (A B : Stat × Int) (R : Tab × Int) : Prop where
  good : R.1.good
  from_ : R.2 = 0 → A.2 = 0
  same : R.2 = 0 → B.2 = 0 → A.1.node = B.1.node → R.1 = T
  at_ : R.2 = 0 → ¬ (B.2 = 0 ∧ A.1.node = B.1.node) → R.1.at A.1.node = T.at A.1.node ∧ R.1.links A.1.node = T.links A.1.node
  over : R.2 = 0 → B.2 = 0 → A.1.node ≠ B.1.node → R.1.links B.1.node = T.links B.1.node - 1
  back : R.2 = 0 → B.2 ≠ 0 → (R.1.renameF rootC (R.1.resolve rootC tg false) (R.1.resolve rootC fr false) []).2 = 0 → (R.1.renameF rootC (R.1.resolve rootC tg false) (R.1.resolve rootC fr false) []).1.same T = true
theorem moved_law {T : Tab} (hg : T.good) (ht : T.tree) (fr tg : ByteArray) : MovedLaw T fr tg (T.look rootC fr false) (T.look rootC tg false) (T.renameF rootC (T.resolve rootC fr false) (T.resolve rootC tg false) []) := by
  have hgR := good_rename hg rootC (T.resolve rootC fr false) (T.resolve rootC tg false) []
  obtain ⟨q, hq⟩ : ∃ q, q = T.resolve rootC tg false := ⟨_, rfl⟩
  obtain ⟨p, hp⟩ : ∃ p, p = T.resolve rootC fr false := ⟨_, rfl⟩
  rw [← hp, ← hq] at hgR ⊢
  by_cases hE : T.renameE rootC p q = 0
  case neg =>
    rw [renameF_err [] hE] at hgR ⊢
    exact ⟨hgR, fun z => absurd z hE, fun z => absurd z hE, fun z => absurd z hE, fun z => absurd z hE, fun z => absurd z hE⟩
  have hpf : T.pfindE rootC p = 0 ∧ q.2 = 0 ∧ q.1.name ≠ ⟨#[]⟩ := by
    unfold Tab.renameE at hE
    split at hE
    · rename_i h; exact absurd hE h
    rename_i h1
    split at hE
    · rename_i h; exact absurd hE h
    rename_i h2
    split at hE
    · cases hE
    rename_i h3
    exact ⟨Decidable.of_not_not h1, Decidable.of_not_not h2, h3⟩
  obtain ⟨hpf, hq2, hqn⟩ := hpf
  obtain ⟨a1, a2, a3, a4, a5⟩ := pfind_zero hpf
  have hP : TakeAt T p.1 := by rw [hp] at a1 a2 a3 ⊢; exact take_at hg ht a1 a2 a3
  obtain ⟨hA, hAn⟩ := look_of (T := T) (c := rootC) (path := fr) (fo := false) (i := p.1.node) (by rw [← hp]; exact a1) (by rw [← hp]) hP.has
  rw [hA]
  by_cases hd : q.1.node = p.1.node
  · rw [renameF_same [] hE hd] at hgR ⊢
    obtain ⟨hB, hBn⟩ := look_of (T := T) (c := rootC) (path := tg) (fo := false) (i := p.1.node) (by rw [← hq]; exact hq2) (by rw [← hq]; exact hd) hP.has
    rw [hB]
    exact ⟨hgR, fun _ => rfl, fun _ _ _ => rfl, fun _ z => absurd ⟨rfl, rfl⟩ z, fun _ _ z => absurd rfl z, fun _ z => absurd rfl z⟩
  have hF := move_facts hg ht hp hq hE hd
  obtain ⟨e, hM⟩ := rename_to hg ht hp hq hE hd
  rw [e] at hgR ⊢
  generalize T.movedT p.1 q.1 = U at hM hgR ⊢
  have hpq : p.1.node ≠ q.1.dir := fun z => not_below hg ht hF 0 z.symm
  have hpd : p.1.node ≠ p.1.dir := fun z => by
    have hk : (T.at p.1.node).kind = 2 := by rw [z]; exact hP.kind
    have hn1 := node_ne1 hg ht hP.ent
    have hpar := one_parent hg.wf (ht.dirs _ hk hn1).1 hP.ent
    have hup : ∀ n, T.up n p.1.node = p.1.node := fun n => by
      induction n with
      | zero => rfl
      | succ n ih => rw [Tab.up, hpar, ← z]; exact ih
    obtain ⟨k, hk1⟩ := tree_up1 ht hk
    rw [hup] at hk1
    exact hn1 hk1
  have hsameA : U.at p.1.node = T.at p.1.node := by
    refine at_ext hg hM.good (hM.same _ (fun z => hd z.1.symm)) (fun e => ?_)
    rw [hM.mem]
    exact ⟨fun y => y.elim (fun y => absurd y.1 hpq) (fun y => y.1), fun y => .inr ⟨y, fun z => hpd z.1, fun z => hpq z.2.1⟩⟩
  have hlA : U.links p.1.node = T.links p.1.node := by
    rw [hM.links, if_neg (fun z => hd z.2.symm)]; omega
  by_cases h0 : q.1.node = 0
  · have hB : T.look rootC tg false = (Stat.zero, 2) := by
      unfold Tab.look
      rw [← hq, if_pos hq2, h0, has0, if_neg (by decide)]
    rw [hB]
    refine ⟨hgR, fun _ => rfl, fun _ z => absurd z (by decide), fun _ _ => by rw [hAn]; exact ⟨hsameA, hlA⟩, fun _ z => absurd z (by decide), fun _ _ hG => ?_⟩
    simp only at hG ⊢
    have hK := moved_keep hg ht hP hM h0 (hF.qnone h0)
    have hn1 := node_ne1 hg ht hP.ent
    have hfq : (U.at q.1.dir).find q.1.name = p.1.node := by rw [hK.find _ _ hF.qdir, if_pos ⟨rfl, rfl⟩]
    have hne : ¬ (p.1.dir = q.1.dir ∧ p.1.name = q.1.name) := fun z => hP.node (by
      have := hF.qnone h0
      rw [← z.1, ← z.2, hP.find] at this
      exact this)
    have hfp : (U.at p.1.dir).find p.1.name = 0 := by rw [hK.find _ _ hP.kind, if_neg hne, if_pos ⟨rfl, rfl⟩]
    have hr1 := resolve_keep hg ht hK hn1 (path := tg) (r := q.1) (by rw [← hq, ← hq2]) hqn
    have hr2 := resolve_keep hg ht hK hn1 (path := fr) (r := p.1) (by rw [← hp, ← a1]) a3
    rw [hfq] at hr1
    rw [hfp] at hr2
    by_cases hE2 : U.renameE rootC (U.resolve rootC tg false) (U.resolve rootC fr false) = 0
    case neg => rw [renameF_err [] hE2] at hG; exact absurd hG hE2
    have hz1 : (U.resolve rootC tg false).2 = 0 ∧ (U.resolve rootC fr false).2 = 0 := by
      unfold Tab.renameE at hE2
      split at hE2
      · rename_i h; exact absurd hE2 h
      rename_i h1
      split at hE2
      · rename_i h; exact absurd hE2 h
      rename_i h2
      exact ⟨(pfind_zero (Decidable.of_not_not h1)).1, Decidable.of_not_not h2⟩
    have e1 := hr1.resolve_right (fun z => z.1 hz1.1)
    have e2 := hr2.resolve_right (fun z => z.1 hz1.2)
    have hd2 : ¬ (U.resolve rootC fr false).1.node = (U.resolve rootC tg false).1.node := by
      rw [e1, e2]; exact fun z => hP.node z.symm
    obtain ⟨e3, hM2⟩ := rename_to hM.good hM.tree rfl rfl hE2 hd2
    rw [e3]
    rw [e1, e2] at hM2 ⊢
    generalize U.movedT _ _ = V at hM2 ⊢
    refine same_at (fun i => ?_)
    obtain ⟨l1, hl1⟩ := hM.same i (fun z => z.2.1 h0)
    obtain ⟨l2, hl2⟩ := hM2.same i (fun z => z.2.1 rfl)
    refine at_ext hg hM2.good ⟨l2, by rw [hl2, hl1]⟩ (fun x => ?_)
    rw [hM2.mem, hM.mem]
    constructor
    · rintro (⟨z1, z2⟩ | ⟨z1 | z1, z2, _⟩)
      · obtain ⟨y, hy, hyn, hynode⟩ := find_has (by rw [hP.find]; exact hP.node : (T.at p.1.dir).find p.1.name ≠ 0)
        rw [hP.find] at hynode
        rw [z1, z2]
        show (⟨p.1.name, p.1.node⟩ : Ent) ∈ (T.at p.1.dir).ents
        rw [← hyn, ← hynode]; exact hy
      · exact absurd ⟨z1.1, by rw [z1.2]⟩ z2
      · exact z1.1
    · intro hx
      by_cases z : i = p.1.dir ∧ x.name = p.1.name
      · refine .inl ⟨z.1, ?_⟩
        rw [z.1] at hx
        have h3 := find_of_mem (dir_rising hg hP.kind).2.2 hx
        rw [z.2, hP.find] at h3
        show x = ⟨p.1.name, p.1.node⟩
        rw [← z.2, h3]
      · refine .inr ⟨.inr ⟨hx, z, fun y => y.1 h0⟩, fun y => ?_, fun y => y.1 rfl⟩
        rw [y.1] at hx
        exact (find_zero (dir_rising hg hF.qdir).2.2).1 (hF.qnone h0) x hx y.2
  · obtain ⟨hB, hBn⟩ := look_of (T := T) (c := rootC) (path := tg) (fo := false) (i := q.1.node) (by rw [← hq]; exact hq2) (by rw [← hq]) (hF.qat h0).has
    rw [hB]
    refine ⟨hgR, fun _ => rfl, fun _ _ z => ?_, fun _ _ => by rw [hAn]; exact ⟨hsameA, hlA⟩, fun _ _ _ => ?_, fun _ z => absurd rfl z⟩
    · rw [hAn, hBn] at z; exact absurd z.symm hd
    · rw [hBn, hM.links, if_pos ⟨h0, rfl⟩]
end Abs
end Go.Proofs.Ytpmnfbgnlanpoaa

set_option linter.unusedVariables false
namespace Go.Proofs.Ytpmnfbgnlanpoaa
namespace Abs
set_option linter.unusedSimpArgs false
set_option maxRecDepth 10000
set_option maxHeartbeats 2000000
attribute [local irreducible] AOps AW AP ACalls thenQ inBlk noGoto

/-! ### PruneMoved -/
theorem wk3c {a b c d : AVal} (h : Wk c d) : Wk (.tup [a, b, c]) (.tup [a, b, d]) := .tup rfl (fun j h1 h2 => match j with | 0 => .refl _ | 1 => .refl _ | 2 => h)
theorem rootC_smallT : rootC.small := (by decide : (0 : Nat) ≤ 1073741824)
theorem pruneMoved_c {room : Int} {l : List Raw} (hl : l.length ≤ 9223372036854775807) {fr tg : ByteArray} {H : AHeap} {K : AVal → AHeap → Prop} (hK : K (.b true) H) :
    ACalls Try.prog 8 [.i room, .sl (encRaws l) .no, .s fr, .s tg] H K := by
  refine acalls_body Try.func8 rfl rfl rfl ?_
  repeat first|(apply x1;apply r0;apply r0)|(apply x9;apply r0)|apply w4|apply w6|apply w7|apply w5
  refine awake15_c ?_
  repeat first|(apply gO;first|(apply x1;apply r0;apply r0)|(apply xbd;apply r0)|(apply x9;apply r0)|apply w4)|(apply gW;first|apply w6|apply w7|(apply w9;apply r0)|apply wa)|apply w5
  refine ACalls.wk (built15_c (c := rootC) hl ?_ (fun T t hB ht => ?_)) (wk3c (wk_agg rfl))
  · repeat first|(apply gO;first|(apply x1;apply r0;apply r0)|apply w4|(apply w3;apply r0;apply r0))|(apply gW;first|apply w6|apply w7|(apply w8;apply r0)|apply wd)|apply w5|apply we
    exact rt1 (H' := H) rfl rfl (.refl _) s0 hK
  have hg := hB.good
  have hc := hB.small
  have htr := build_tree hB.tree
  repeat first|(apply x1;apply r0;apply r0)|(apply x5;apply r0)|apply w4|apply w6|apply w7|apply w5
  refine s_gsplit rfl rfl (fun g1 => ?_) (fun g1 => ?_)<;>first|replace g1:=of_decide_eq_true g1|replace g1:=of_decide_eq_false g1
  · repeat first|(apply gO;first|(apply x1;apply r0;apply r0)|apply w4|(apply w3;apply r0;apply r0))|(apply gW;first|apply w6|apply w7|(apply w8;apply r0)|apply wd)|apply w5|apply we
    exact rt1 (H' := H) rfl rfl (.refl _) (by repeat first|exact s0|(apply su1;assumption)) hK
  repeat first|(apply x1;apply r0;apply r0)|(apply x5;apply r0)|apply w4|apply w5
  refine aw_cond rfl (fun g2 => ?_) (fun g2 => ?_)<;>first|replace g2:=of_decide_eq_true g2|replace g2:=of_decide_eq_false g2
  · repeat first|(apply x1;apply r0;apply r0)|apply w4|apply w6|apply w7|apply wd|apply w5|apply we
    exact rt1 (H' := H) rfl rfl (.refl _) (by repeat first|exact s0|(apply su1;assumption)) hK
  repeat first|(apply xbd;apply r0)|apply w6|apply w7|apply wa|apply w5
  refine s_alloc tk rfl rfl rfl (fun b12 hb12 => ?_); have hb := hb12; (try simp only [put_none_iff, prot_none_iff] at hb); (repeat obtain ⟨_, _, hb⟩ := hb)
  (apply xst;apply r0;(apply ps);apply r0)
  rw [put_put]
  refine aops_wk (ds := encCred rootC) rfl ?_
  have nb7 : b12 ≠ t := Ne.symm (by assumption)
  repeat first|(apply x1;apply r0;apply r0)|(apply x9;apply r0)|apply w4|apply w6|apply w7|apply w5
  refine clone_c hg.wf (by with_reducible repeat first|assumption|apply q0|apply q3) (fun u hu => ?_)
  generalize hX : AHeap.put _ b12 _ = X at hu ⊢
  have xT' : X t = some (.cells (encTab T)) := by rw [← hX]; exact (by apply get_eq;(focus with_reducible repeat first|assumption|apply ps|apply gp);rfl)
  have x9' : Rd X b12 (encCred rootC) := by rw [← hX]; exact (by apply rd_eq;(focus apply q0);rfl)
  have xss : H.sub X := by rw [← hX]; exact (by repeat first|exact s0|(apply su1;assumption))
  clear hX
  have fu : H u = none := sub_none xss hu
  have ntu : t ≠ u := get_ne xT' hu
  have nut : u ≠ t := Ne.symm ntu
  have n9u : b12 ≠ u := rd_ne x9' hu
  generalize hX2 : AHeap.put _ u _ = X2
  have zT2 : X2 t = some (.cells (encTab T)) := by rw [← hX2]; exact (by apply get_eq;(focus with_reducible repeat first|assumption|apply gp);rfl)
  have z92 : Rd X2 b12 (encCred rootC) := by rw [← hX2]; exact (by apply rd_eq;(focus with_reducible repeat first|assumption|apply q3);rfl)
  have zu2 : X2 u = some (.cells (encTab T)) := by rw [← hX2]; exact (by apply get_eq;(focus apply ps);rfl)
  have zs2 : H.sub X2 := by rw [← hX2]; exact (by repeat first|assumption|(apply su1;assumption))
  clear hX2
  have hLaw := moved_law hg htr fr tg
  repeat first|(apply x1;apply r0;apply r0)|(apply x2;apply r0;(with_reducible assumption);apply r0)|(apply x9;apply r0)|apply w4|apply w6|apply w7|apply w5
  refine llstat_c hg rootC_smallT (by with_reducible repeat exact q1 ‹_›) ?_
  generalize T.look rootC fr false = A at hLaw ⊢
  repeat (apply x1;apply r0;apply r0)
  refine s_alloc tk rfl rfl rfl (fun b14 hb14 => ?_); have hb := hb14; (try simp only [put_none_iff, prot_none_iff] at hb); (repeat obtain ⟨_, _, hb⟩ := hb)
  have n14t : b14 ≠ t := Ne.symm (get_ne zT2 hb)
  have n14u : b14 ≠ u := Ne.symm (get_ne zu2 hb)
  repeat first|(apply gO;first|(apply x1;apply r0;apply r0)|(apply x2;apply r0;(with_reducible repeat first|assumption|apply ps|apply q3|exact n1 ‹_› ‹_›);apply r0)|(apply xst;apply r0;(with_reducible repeat first|assumption|apply ps|apply q3|exact n1 ‹_› ‹_›);apply r0)|(apply x9;apply r0)|apply w4)|(apply gW;first|apply w6|apply w7)|apply w5
  refine llstat_c hg rootC_smallT (by with_reducible repeat first|exact q1 ‹_›|apply q3|exact n2 ‹_› ‹_›) ?_
  generalize T.look rootC tg false = B at hLaw ⊢
  repeat (apply x1;apply r0;apply r0)
  refine s_alloc tk rfl rfl rfl (fun b16 hb16 => ?_); have hb := hb16; (try simp only [put_none_iff, prot_none_iff] at hb); (repeat obtain ⟨_, _, hb⟩ := hb)
  have n16t : b16 ≠ t := Ne.symm (get_ne zT2 hb)
  have n16u : b16 ≠ u := Ne.symm (get_ne zu2 hb)
  repeat first|(apply gO;first|(apply x1;apply r0;apply r0)|(apply x2;apply r0;(with_reducible repeat first|assumption|apply ps|apply q3|exact n1 ‹_› ‹_›);apply r0)|(apply xst;apply r0;(with_reducible repeat first|assumption|apply ps|apply q3|exact n1 ‹_› ‹_›);apply r0)|(apply x9;apply r0)|apply w4)|(apply gW;first|apply w6|apply w7)|apply w5
  refine rename_c (op := []) hg rootC_smallT (Nat.zero_le _) (by with_reducible repeat first|assumption|apply gp|exact n2 ‹_› ‹_›) ?_
  generalize T.renameF rootC (T.resolve rootC fr false) (T.resolve rootC tg false) [] = R at hLaw ⊢
  obtain ⟨hgR, l1, l2, l3, l4, l5⟩ := hLaw
  have hgb := good_rename hgR rootC (R.1.resolve rootC tg false) (R.1.resolve rootC fr false) []
  repeat first|(apply x1;apply r0;apply r0)|apply w4|apply w5
  refine aw_cond rfl (fun g3 => ?_) (fun g3 => ?_)<;>first|replace g3:=not_t g3|replace g3:=not_f g3
  · repeat first|(apply x1;apply r0;apply r0)|apply w4|apply w6|apply w7|apply wd|apply w5|apply we
    exact rt1 (H' := H) rfl rfl (.refl _) (by repeat first|assumption|(apply su1;assumption)|(apply su3;assumption;assumption)) hK
  have g3' : R.2 = 0 := g3
  have hA0 := l1 g3'
  rw [hA0]
  generalize hY : AHeap.put _ t _ = Y
  have yT : Y t = some (.cells (encTab R.1)) := by rw [← hY]; exact (by apply get_eq;(focus apply ps);rfl)
  have yU : Rd Y u (encTab T) := by rw [← hY]; exact (by apply rd_eq;(focus with_reducible repeat first|assumption|exact q1 ‹_›|apply q3|exact n2 ‹_› ‹_›);rfl)
  have y12 : Rd Y b12 (encCred rootC) := by rw [← hY]; exact (by apply rd_eq;(focus with_reducible repeat first|assumption|apply q3|exact n1 ‹_› ‹_›);rfl)
  have y14 : Rd Y b14 (encSt A.1) := by rw [← hY]; exact (by apply rd_eq;(focus with_reducible repeat first|assumption|apply q0|apply q3);rfl)
  have y16 : Rd Y b16 (encSt B.1) := by rw [← hY]; exact (by apply rd_eq;(focus with_reducible repeat first|assumption|apply q0|apply q3);rfl)
  have ys : H.sub Y := by rw [← hY]; exact (by repeat first|assumption|(apply su1;assumption)|(apply su3;assumption;assumption))
  clear hY
  have k1 := links_le hg.wf A.1.node
  have k2 := links_le hg.wf B.1.node
  repeat first|(apply x1;apply r0;apply r0)|(apply x5;apply r0)|apply w6|apply w7|apply wa|apply w5
  by_cases hB0 : B.2 = 0
  · rw [hB0]
    repeat first|(apply x1;apply r0;apply r0)|(apply x2;apply r0;(with_reducible assumption);apply r0)|(apply x5;apply r0)|apply w4|apply w5
    by_cases hn : A.1.node = B.1.node
    · refine aw_cond rfl (fun e1 => ?_) (fun e1 => ?_)<;>first|replace e1:=of_decide_eq_true e1|replace e1:=of_decide_eq_false e1
      case refine_2 => exact absurd hn e1
      repeat first|(apply x1;apply r0;apply r0)|(apply x5;apply r0)|(apply x9;apply r0)|apply w6|apply w7
      refine tsame_c hgR.wf hg.wf (by with_reducible repeat exact q1 ‹_›) (by with_reducible assumption) ?_
      rw [l2 g3' hB0 hn, same_selfQ]
      repeat first|(apply x1;apply r0;apply r0)|apply w4|apply wd|apply w5|apply we
      exact rt1 (H' := H) rfl rfl (.refl _) (by repeat assumption) hK
    · refine aw_cond rfl (fun e1 => ?_) (fun e1 => ?_)<;>first|replace e1:=of_decide_eq_true e1|replace e1:=of_decide_eq_false e1
      · exact absurd e1 hn
      obtain ⟨m1, m2⟩ := l3 g3' (fun z => hn z.2)
      repeat first|(apply x1;apply r0;apply r0)|(apply x2;apply r0;(with_reducible assumption);apply r0)|(apply x9;apply r0)|apply w6|apply w7|apply wa|apply w5
      refine tget_c hgR.wf (by with_reducible repeat exact q1 ‹_›) ?_
      rw [m1]
      repeat (apply x1;apply r0;apply r0)
      refine s_alloc tk rfl rfl rfl (fun b18 hb18 => ?_); have hb := hb18; (try simp only [put_none_iff, prot_none_iff] at hb); (repeat obtain ⟨_, _, hb⟩ := hb)
      repeat first|(apply gO;first|(apply x1;apply r0;apply r0)|(apply x2;apply r0;(with_reducible repeat first|assumption|apply ps|apply q3|exact n1 ‹_› ‹_›);apply r0)|(apply xst;apply r0;(with_reducible repeat first|assumption|apply ps|apply q3|exact n1 ‹_› ‹_›);apply r0)|(apply x9;apply r0)|apply w4)|(apply gW;first|apply w6|apply w7)|apply w5
      refine tget_c hg.wf (by with_reducible repeat first|assumption|apply q3|exact n1 ‹_› ‹_›) ?_
      repeat (apply x1;apply r0;apply r0)
      refine s_alloc tk rfl rfl rfl (fun b20 hb20 => ?_); have hb := hb20; (try simp only [put_none_iff, prot_none_iff] at hb); (repeat obtain ⟨_, _, hb⟩ := hb)
      repeat first|(apply x1;apply r0;apply r0)|(apply xst;apply r0;(apply ps);apply r0)|apply w4|apply w6|apply w5
      refine aw_prot [t, u, b14, b18, b20] (allc (by with_reducible repeat first|exact q1 ‹_›|apply q3|exact n2 ‹_› ‹_›) (allc (by with_reducible repeat first|assumption|apply q3|exact n1 ‹_› ‹_›) (allc (by with_reducible repeat first|assumption|apply q3|exact n1 ‹_› ‹_›) (allc (by with_reducible repeat first|assumption|apply q0|apply q3) (allc (by apply q0) (allc0 _)))))) ?_
      refine aw_plan mixed (.take 0 (.take 1 (.one 2 (.take 3 (.take 4 (.take 5 (.take 6 (.take 7 (.take 9 (.take 10 (.take 11 (.one 8 (.one 12 (.take 13 (.take 14 .done))))))))))))))) (by kernel_rfl) ?_
      repeat first|(apply x9;apply r0)|(apply y4;apply r0)|(apply y2;apply r0;apply r0;(with_reducible repeat first|assumption|apply q0|apply pg|apply q3|exact mm0|apply mm1);apply r0)
      refine same_c (at_few hg _).small ?_
      rw [same_refl]
      repeat first|(apply x5;apply r0)|(apply x9;apply r0)|apply w4|(apply y1;apply r0;apply r0)|(apply take1_ok;apply r0)|(apply y4;apply r0)|(apply y2;apply r0;apply r0;(with_reducible repeat first|assumption|apply pg|apply q3|exact n1 ‹_› ‹_›|exact mm0|apply mm1);apply r0)
      refine links_c hgR.wf (by with_reducible repeat first|exact q1 ‹_›|apply q4|apply q3|exact n2 ‹_› ‹_›) ?_
      rw [m2]
      repeat first|(apply x5;apply r0)|(apply x9;apply r0)|apply w4|(apply y4;apply r0)
      refine links_c hg.wf (by with_reducible repeat first|assumption|apply q4|apply q3|exact n1 ‹_› ‹_›) ?_
      repeat first|apply w4|(apply y1;apply r0;apply r0)|apply y0|(apply take1_ok;apply r0)
      refine prot_done ?_
      repeat apply w5
      refine aw_cond rfl (fun e2 => ?_) (fun e2 => ?_)<;>first|replace e2:=not_t e2|replace e2:=not_f e2
      · exact absurd rfl e2
      repeat first|(apply x1;apply r0;apply r0)|apply w4|apply w6|apply w7|(apply w8;apply r0)|apply wa|apply w5
      refine aw_prot [t, u, b16] (allc (by with_reducible repeat first|exact q1 ‹_›|apply q3|exact n2 ‹_› ‹_›) (allc (by with_reducible repeat first|assumption|apply q3|exact n1 ‹_› ‹_›) (allc (by with_reducible repeat first|assumption|apply q3|exact n1 ‹_› ‹_›) (allc0 _)))) ?_
      refine aw_plan mixed (.take 0 (.take 1 (.take 2 (.take 4 (.take 5 (.take 6 (.one 3 (.one 7 (.take 8 (.take 9 (.take 10 .done))))))))))) (by kernel_rfl) ?_
      repeat first|(apply x9;apply r0)|(apply y1;apply r0;apply r0)|(apply y4;apply r0)|(apply y2;apply r0;apply r0;(with_reducible repeat first|assumption|apply pg|apply q3|exact n1 ‹_› ‹_›|exact mm0|apply mm1);apply r0)
      refine links_c hgR.wf (by with_reducible repeat first|exact q1 ‹_›|apply q4|apply q3|exact n2 ‹_› ‹_›) ?_
      rw [l4 g3' hB0 hn]
      repeat first|(apply x9;apply r0)|apply w4|(apply y4;apply r0)
      refine links_c hg.wf (by with_reducible repeat first|assumption|apply q4|apply q3|exact n1 ‹_› ‹_›) ?_
      repeat first|apply w4|(apply y1;apply r0;apply r0)|apply y0|(apply y7;apply r0;apply r0;omega)
      refine prot_done ?_
      repeat first|apply wd|apply w5|apply we
      refine rt1 (H' := H) rfl rfl (.refl _) (by repeat first|assumption|(apply su3;assumption;assumption)) ?_
      rw [decide_eq_true rfl]
      exact hK
  · obtain ⟨m1, m2⟩ := l3 g3' (fun z => hB0 z.1)
    refine s_gsplit rfl rfl (fun e1 => ?_) (fun e1 => ?_)<;>first|replace e1:=of_decide_eq_true e1|replace e1:=of_decide_eq_false e1
    · exact absurd e1 hB0
    repeat first|(apply gO;first|(apply x1;apply r0;apply r0)|(apply x2;apply r0;(with_reducible assumption);apply r0)|(apply x5;apply r0)|(apply x9;apply r0)|apply w4|(apply w3;apply r0;apply r0))|(apply gW;first|apply w6|apply w7|(apply w9;apply r0)|apply wa)|apply w5
    refine tget_c hgR.wf (by with_reducible repeat exact q1 ‹_›) ?_
    rw [m1]
    repeat (apply x1;apply r0;apply r0)
    refine s_alloc tk rfl rfl rfl (fun b18 hb18 => ?_); have hb := hb18; (try simp only [put_none_iff, prot_none_iff] at hb); (repeat obtain ⟨_, _, hb⟩ := hb)
    repeat first|(apply gO;first|(apply x1;apply r0;apply r0)|(apply x2;apply r0;(with_reducible repeat first|assumption|apply ps|apply q3|exact n1 ‹_› ‹_›);apply r0)|(apply xst;apply r0;(with_reducible repeat first|assumption|apply ps|apply q3|exact n1 ‹_› ‹_›);apply r0)|(apply x9;apply r0)|apply w4)|(apply gW;first|apply w6|apply w7)|apply w5
    refine tget_c hg.wf (by with_reducible repeat first|assumption|apply q3|exact n1 ‹_› ‹_›) ?_
    repeat (apply x1;apply r0;apply r0)
    refine s_alloc tk rfl rfl rfl (fun b20 hb20 => ?_); have hb := hb20; (try simp only [put_none_iff, prot_none_iff] at hb); (repeat obtain ⟨_, _, hb⟩ := hb)
    repeat first|(apply x1;apply r0;apply r0)|(apply xst;apply r0;(apply ps);apply r0)|apply w4|apply w6|apply w5
    refine aw_prot [t, u, b14, b18, b20] (allc (by with_reducible repeat first|exact q1 ‹_›|apply q3|exact n2 ‹_› ‹_›) (allc (by with_reducible repeat first|assumption|apply q3|exact n1 ‹_› ‹_›) (allc (by with_reducible repeat first|assumption|apply q3|exact n1 ‹_› ‹_›) (allc (by with_reducible repeat first|assumption|apply q0|apply q3) (allc (by apply q0) (allc0 _)))))) ?_
    refine aw_plan mixed (.take 0 (.take 1 (.one 2 (.take 3 (.take 4 (.take 5 (.take 6 (.take 7 (.take 9 (.take 10 (.take 11 (.one 8 (.one 12 (.take 13 (.take 14 .done))))))))))))))) (by kernel_rfl) ?_
    repeat first|(apply x9;apply r0)|(apply y4;apply r0)|(apply y2;apply r0;apply r0;(with_reducible repeat first|assumption|apply q0|apply pg|apply q3|exact mm0|apply mm1);apply r0)
    refine same_c (at_few hg _).small ?_
    rw [same_refl]
    repeat first|(apply x5;apply r0)|(apply x9;apply r0)|apply w4|(apply y1;apply r0;apply r0)|(apply take1_ok;apply r0)|(apply y4;apply r0)|(apply y2;apply r0;apply r0;(with_reducible repeat first|assumption|apply pg|apply q3|exact n1 ‹_› ‹_›|exact mm0|apply mm1);apply r0)
    refine links_c hgR.wf (by with_reducible repeat first|exact q1 ‹_›|apply q4|apply q3|exact n2 ‹_› ‹_›) ?_
    rw [m2]
    repeat first|(apply x5;apply r0)|(apply x9;apply r0)|apply w4|(apply y4;apply r0)
    refine links_c hg.wf (by with_reducible repeat first|assumption|apply q4|apply q3|exact n1 ‹_› ‹_›) ?_
    repeat first|apply w4|(apply y1;apply r0;apply r0)|apply y0|(apply take1_ok;apply r0)
    refine prot_done ?_
    repeat apply w5
    refine aw_cond rfl (fun e2 => ?_) (fun e2 => ?_)<;>first|replace e2:=not_t e2|replace e2:=not_f e2
    · exact absurd rfl e2
    repeat first|(apply x1;apply r0;apply r0)|apply w4|apply w6|apply w7|apply wa|apply w5
    refine aw_cond rfl (fun e3 => ?_) (fun e3 => ?_)<;>first|replace e3:=of_decide_eq_true e3|replace e3:=of_decide_eq_false e3
    · exact absurd e3 hB0
    repeat first|(apply x1;apply r0;apply r0)|(apply x2;apply r0;(with_reducible repeat first|assumption|apply q3|exact n1 ‹_› ‹_›);apply r0)|(apply x9;apply r0)|apply w6|apply w7|apply wa|apply w5
    refine rename_c (op := []) hgR rootC_smallT (Nat.zero_le _) (by with_reducible repeat first|assumption|apply gp|exact n2 ‹_› ‹_›) ?_
    have l5' := l5 g3' hB0
    generalize R.1.renameF rootC (R.1.resolve rootC tg false) (R.1.resolve rootC fr false) [] = G at l5' hgb ⊢
    repeat first|(apply x1;apply r0;apply r0)|apply w4|apply w6|apply w7|apply w5
    refine s_gsplit rfl rfl (fun e4 => ?_) (fun e4 => ?_)<;>first|replace e4:=not_t e4|replace e4:=not_f e4
    · repeat first|(apply x1;apply r0;apply r0)|apply w4|(apply w3;apply r0;apply r0)|apply wd|apply w5
      exact rt1 (H' := H) rfl rfl (.refl _) (by repeat first|assumption|(apply su1;assumption)|(apply su3;assumption;assumption)) hK
    repeat first|(apply x1;apply r0;apply r0)|(apply x5;apply r0)|(apply x9;apply r0)
    refine tsame_c hgb.wf hg.wf (by apply q0) (by with_reducible repeat first|assumption|apply q3|exact n1 ‹_› ‹_›) ?_
    rw [l5' e4]
    repeat first|(apply x1;apply r0;apply r0)|apply w4|apply wd|apply w5
    exact rt1 (H' := H) rfl rfl (.refl _) (by repeat first|assumption|(apply su1;assumption)|(apply su3;assumption;assumption)) hK
end Abs
end Go.Proofs.Ytpmnfbgnlanpoaa
