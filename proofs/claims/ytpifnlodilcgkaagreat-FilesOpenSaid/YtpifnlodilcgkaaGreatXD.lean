import Derived.Test.YtpifnlodilcgkaaGreatXA
import Derived.Test.YtpifnlodilcgkaaGreatL1
import Derived.Test.YtpifnlodilcgkaaGreatQ4
set_option linter.unusedVariables false
namespace Go.Proofs.YtpifnlodilcgkaaGreat
namespace Abs
set_option linter.unusedSimpArgs false
set_option maxRecDepth 10000
set_option maxHeartbeats 2000000
attribute [local irreducible] AOps AW AP ACalls thenQ inBlk noGoto
attribute [local irreducible] absOf endOf

/-! ### the document's chapter 11 -/
structure Tells (T : Tab) (L : List Node) : Prop where
  rel : Rel T L
  good : T.good
theorem Tells.get {T : Tab} {L : List Node} (h : Tells T L) (i : Int) : rget L i = T.at i := l_get h.good.wf h.rel i
theorem Tells.len {T : Tab} {L : List Node} (h : Tells T L) : L.length ≤ 1073741824 := Nat.le_trans h.rel.most (by decide)
theorem at_ok {T : Tab} (hg : T.good) (i : Int) : T.at i = Node.zero ∨ nodeOk (T.at i) = true := by
  unfold Tab.at
  split
  · exact get_clean hg.clean i
  · exact .inl rfl
theorem at_mode {T : Tab} (hg : T.good) (i : Int) : 0 ≤ (T.at i).mode ∧ (T.at i).mode ≤ 4095 := by
  rcases at_ok hg i with e | e
  · rw [e]; exact ⟨by decide, by decide⟩
  · unfold nodeOk at e
    simp only [Bool.and_eq_true, decide_eq_true_eq] at e
    exact e.1.1.1
theorem at_kind {T : Tab} (i : Int) : (T.at i).kind = 0 ↔ T.has i = false := by
  unfold Tab.at
  cases h : T.has i with
  | true =>
    rw [if_pos rfl]
    have := has_kind h
    simp [this]
  | false => simp [Node.zero]
theorem in64_mode {m : Int} (h : 0 ≤ m ∧ m ≤ 4095) : in64 m := ⟨by omega, by omega⟩
theorem rcan1_c {T : Tab} {L : List Node} (ht : Tells T L) {c : Cred} (hc : c.small) {i want : Int} (hw : in64 want) {H : AHeap} {K : AVal → AHeap → Prop} (hK : K (.b (T.can c i want)) H) :
    ACalls Tryz.prog 22 [.agg (encT L), .agg (encCred c), .i i, .i want] H K := by
  refine acalls_body Tryz.func22 rfl rfl rfl ?_
  unfold Tab.can at hK
  repeat first|apply w6|apply w7
  refine s_box rfl rfl rfl (fun b4 hb4 => ?_); have hb := hb4; (try simp only [put_none_iff, prot_none_iff] at hb); (repeat obtain ⟨_, _, hb⟩ := hb)
  skip
  refine s_box rfl rfl rfl (fun b5 hb5 => ?_); have hb := hb5; (try simp only [put_none_iff, prot_none_iff] at hb); (repeat obtain ⟨_, _, hb⟩ := hb)
  repeat first|(apply x1;apply r0;apply r0)|(apply x2;apply r0;(with_reducible repeat first|assumption|apply q0|apply q3);apply r0)|(apply x9;apply r0)|apply w4|apply w6|apply w7|apply w5
  refine rget_c ht.len ?_
  rw [ht.get]
  have hm := in64_mode (at_mode ht.good i)
  have hk := at_kind (T := T) i
  skip
  refine s_alloc tk rfl rfl rfl (fun b9 hb9 => ?_); have hb := hb9; (try simp only [put_none_iff, prot_none_iff] at hb); (repeat obtain ⟨_, _, hb⟩ := hb)
  repeat first|(apply x1;apply r0;apply r0)|(apply x2;apply r0;(with_reducible repeat first|apply q0|apply ps);apply r0)|(apply xst;apply r0;(with_reducible repeat first|apply q0|apply ps);apply r0)|apply w4|apply w6|apply w7|apply w5
  refine s_gsplit rfl rfl (fun g => ?_) (fun g => ?_)<;>first|replace g:=not_t g|replace g:=not_f g
  · have hh : T.has i = true := by
      cases hq : T.has i with
      | true => rfl
      | false => exact absurd (hk.2 hq) g
    rw [hh, Bool.true_and] at hK
    repeat first|(apply x1;apply r0;apply r0)|(apply x2;apply r0;(with_reducible repeat first|assumption|apply q0|apply q3);apply r0)|(apply x5;apply r0)|(apply x9;apply r0)
    refine rcan_c hc hm hw ?_
    repeat first|(apply x1;apply r0;apply r0)|apply w4|apply wd|apply w5
    exact rt1 (H' := H) rfl rfl (.refl _) (by repeat first|exact s0|(apply su1;assumption)) hK
  · have hh : T.has i = false := hk.1 g
    rw [hh, Bool.false_and] at hK
    repeat first|(apply x1;apply r0;apply r0)|apply w4|(apply w3;apply r0;apply r0)|apply wd|apply w5
    exact rt1 (H' := H) rfl rfl (.refl _) (by repeat first|exact s0|(apply su1;assumption)) hK
theorem rrfits_c {T : Tab} {L : List Node} (ht : Tells T L) {path : ByteArray} (hp : path.size ≤ 16777200) {H : AHeap} {K : AVal → AHeap → Prop} (hK : K (.i (T.fitsE path)) H) :
    ACalls Tryz.prog 43 [.agg (encT L), .s path] H K := by
  refine acalls_body Tryz.func43 rfl rfl rfl ?_
  unfold Tab.fitsE at hK
  have hk := at_kind (T := T) 1
  repeat first|apply w6|apply w7
  refine s_box rfl rfl rfl (fun b2 hb2 => ?_); have hb := hb2; (try simp only [put_none_iff, prot_none_iff] at hb); (repeat obtain ⟨_, _, hb⟩ := hb)
  repeat first|(apply x1;apply r0;apply r0)|apply w4|apply w6|apply w7|apply w5
  refine aw_cond rfl (fun c1 => ?_) (fun c1 => ?_)<;>first|replace c1:=of_decide_eq_true c1|replace c1:=of_decide_eq_false c1
  · rw [if_pos c1] at hK
    repeat first|(apply x1;apply r0;apply r0)|apply w4|apply w6|apply w7|apply wd|apply w5|apply we
    exact rt1 (H' := H) rfl rfl (.refl _) (by repeat first|exact s0|(apply su1;assumption)) hK
  rw [if_neg c1] at hK
  repeat first|(apply x1;apply r0;apply r0)|apply w4|apply w6|apply w7|apply wa|apply w5
  refine aw_cond rfl (fun c2 => ?_) (fun c2 => ?_)<;>first|replace c2:=of_decide_eq_true c2|replace c2:=of_decide_eq_false c2
  · rw [if_pos c2] at hK
    repeat first|(apply x1;apply r0;apply r0)|apply w4|apply w6|apply w7|apply wd|apply w5|apply we
    exact rt1 (H' := H) rfl rfl (.refl _) (by repeat first|exact s0|(apply su1;assumption)) hK
  rw [if_neg c2] at hK
  repeat first|(apply x1;apply r0;apply r0)|(apply x9;apply r0)|apply w6|apply w7|apply wa|apply w5
  refine rhas_c (c := 0) rfl (by omega) ?_
  repeat first|(apply x1;apply r0;apply r0)|apply w4|apply w6|apply w7|apply w5
  refine aw_cond rfl (fun c3 => ?_) (fun c3 => ?_)
  · rw [if_pos c3] at hK
    repeat first|(apply x1;apply r0;apply r0)|apply w4|apply w6|apply w7|apply wd|apply w5|apply we
    exact rt1 (H' := H) rfl rfl (.refl _) (by repeat first|exact s0|(apply su1;assumption)) hK
  rw [c3, if_neg (by decide)] at hK
  repeat first|(apply x2;apply r0;(apply q0);apply r0)|(apply x9;apply r0)|apply w6|apply w7|apply wa|apply w5
  refine rget_c ht.len ?_
  rw [ht.get]
  skip
  refine s_field tk rfl rfl rfl rfl rfl rfl ?_
  repeat first|(apply x1;apply r0;apply r0)|apply w4|apply w5
  refine aw_cond rfl (fun c4 => ?_) (fun c4 => ?_)<;>first|replace c4:=of_decide_eq_true c4|replace c4:=of_decide_eq_false c4
  · rw [hk.1 c4, if_neg (by decide)] at hK
    repeat first|(apply x1;apply r0;apply r0)|apply w4|apply w6|apply w7|apply wd|apply w5|apply we
    exact rt1 (H' := H) rfl rfl (.refl _) (by repeat first|exact s0|(apply su1;assumption)) hK
  · have : T.has 1 = true := by
      cases hq : T.has 1 with
      | true => rfl
      | false => exact absurd (hk.2 hq) c4
    rw [this, if_pos rfl] at hK
    repeat first|(apply x1;apply r0;apply r0)|apply w4|apply w6|apply w7|apply wa|apply wd|apply w5
    exact rt1 (H' := H) rfl rfl (.refl _) (by repeat first|exact s0|(apply su1;assumption)) hK
end Abs
end Go.Proofs.YtpifnlodilcgkaaGreat

set_option linter.unusedVariables false
namespace Go.Proofs.YtpifnlodilcgkaaGreat
namespace Abs
set_option linter.unusedSimpArgs false
set_option maxRecDepth 10000
set_option maxHeartbeats 2000000
attribute [local irreducible] AOps AW AP ACalls thenQ inBlk noGoto
attribute [local irreducible] absOf endOf

/-! ### the document's chapter 11: link, take -/
def encS (s : RSt) : List AVal := [.sl (encStrs s.left) .no, .i s.pos, .i s.links, .b false, .i 0, .s ⟨#[]⟩, .i 0, .i 0]
def encD (r : Found × Int) : List AVal := [.sl [] .no, .i 0, .i 0, .b true, .i r.1.dir, .s r.1.name, .i r.1.node, .i r.2]
def encQ : Sum RSt (Found × Int) → List AVal
  | .inl s => encS s
  | .inr r => encD r
theorem failS_c {e : Int} {H : AHeap} {K : AVal → AHeap → Prop} (hK : K (.agg (encD (Found.zero, e))) H) : ACalls Tryz.prog 70 [.i e] H K := by
  refine acalls_body Tryz.func70 rfl rfl rfl ?_
  repeat first|apply w6|apply w7
  refine s_alloc tk rfl rfl rfl (fun b2 hb2 => ?_); have hb := hb2; (try simp only [put_none_iff, prot_none_iff] at hb); (repeat obtain ⟨_, _, hb⟩ := hb)
  repeat first|(apply gO;first|(apply x1;apply r0;apply r0)|(apply xst;apply r0;(apply ps);apply r0)|(apply xbd;apply r0)|apply w4)|(apply gW;first|apply w6|apply w7|apply wd)|apply w5
  exact rt1c (H' := H) rfl rfl (by apply q0) rfl (by rfl) (wk_agg (l' := encD (Found.zero, e)) rfl) (by repeat first|exact s0|(apply su1;assumption)) hK
theorem link_c {s : RSt} {target : ByteArray} (ht : target.size ≤ 1000) (hl : s.left.length ≤ 100000) (hk : s.links ≤ 8) {H : AHeap} {K : AVal → AHeap → Prop}
    (hK : K (.agg (encQ (if s.links = 8 then .inr (Found.zero, 40) else .inl ⟨if absOf target = true then 1 else s.pos, s.links + 1, splitOf target ++ s.left⟩))) H) :
    ACalls Tryz.prog 73 [.agg (encS s), .s target] H K := by
  refine acalls_body Tryz.func73 rfl rfl rfl ?_
  have hsl := splitOf_len target
  have l1 : (encStrs (splitOf target)).length = (splitOf target).length := by simp [encStrs]
  have l2 : (encStrs s.left).length = s.left.length := by simp [encStrs]
  repeat first|apply w6|apply w7
  refine s_box rfl rfl rfl (fun b2 hb2 => ?_); have hb := hb2; (try simp only [put_none_iff, prot_none_iff] at hb); (repeat obtain ⟨_, _, hb⟩ := hb)
  skip
  refine s_alloc tk rfl rfl rfl (fun b4 hb4 => ?_); have hb := hb4; (try simp only [put_none_iff, prot_none_iff] at hb); (repeat obtain ⟨_, _, hb⟩ := hb)
  repeat first|(apply x1;apply r0;apply r0)|(apply x2;apply r0;(with_reducible repeat first|assumption|apply q0|apply q3);apply r0)|apply w4|apply w6|apply w7|apply w5
  refine aw_cond rfl (fun c1 => ?_) (fun c1 => ?_)<;>first|replace c1:=of_decide_eq_true c1|replace c1:=of_decide_eq_false c1
  · rw [if_pos (by omega)] at hK
    repeat first|(apply x9;apply r0)|apply w6|apply w7
    refine failS_c ?_
    repeat first|(apply xst;apply r0;(apply ps);apply r0)|apply w4|apply wd|apply w5|apply we
    exact rt1c (H' := H) rfl rfl (by apply q0) rfl (by rfl) (by exact wk_agg rfl) (by repeat first|exact s0|(apply su1;assumption)) hK
  rw [if_neg (by omega)] at hK
  repeat first|(apply x1;apply r0;apply r0)|(apply x9;apply r0)|apply w6|apply w7|apply wa|apply w5
  generalize hX : AHeap.put _ b4 _ = X
  have x2' : X b2 = some (.cells (encS s)) := by rw [← hX]; exact (by apply get_eq;(focus with_reducible repeat first|assumption|apply ps|apply gp);rfl)
  have x4' : X b4 = some (.cells [.sl [] .full, .i 0, .i 0, .b false, .i 0, .s ⟨#[]⟩, .i 0, .i 0]) := by rw [← hX]; exact (by apply get_eq;(focus apply ps);rfl)
  have xs : H.sub X := by rw [← hX]; exact (by repeat first|exact s0|(apply su1;assumption))
  have n24 : b2 ≠ b4 := by assumption
  have n42 := n24.symm
  have f2 : H b2 = none := by assumption
  have f4 : H b4 = none := by assumption
  clear hX
  refine rsplit_c (by omega) (fun o Y hown hes => ?_)
  repeat first|(apply x1;apply r0;apply r0)|apply w4|apply w6|apply w7|apply w5
  refine s_append tk rfl rfl rfl rfl rfl (uni_nil _) (strs_uni _) (strs_flat _) trivial trivial (by rw [l1]; simp only [List.length_nil]; omega) (fun o1 ha1 he1 => ?_)
  rw [List.nil_append]
  have hY2 := hown.get x2'
  have hY4 := hown.get x4'
  have hYs : H.sub Y := AHeap.sub_trans xs hown.sub
  have hst1 := (OwnSt.full Y).step ha1
  have hZ2 := hst1.get hY2
  have hZ4 := hst1.get hY4
  have hZs : H.sub ((Y.free .full).own o1) := AHeap.sub_trans hYs hst1.sub
  generalize ((Y.free .full).own o1) = Z at hst1 hZ2 hZ4 hZs ⊢
  repeat first|(apply x1;apply r0;apply r0)|(apply x2;apply r0;(with_reducible repeat exact q1 ‹_›);apply r0)|apply w4|apply w6|apply w7|apply w5
  refine s_append tk rfl rfl rfl rfl rfl (strs_uni _) (strs_uni _) (strs_flat _) hst1.own he1 (by rw [l1, l2]; omega) (fun o2 ha2 he2 => ?_)
  rw [show encStrs (splitOf target) ++ encStrs s.left = encStrs (splitOf target ++ s.left) by simp [encStrs]]
  have hst2 := hst1.step ha2
  have hW2 := hst2.get hY2
  have hW4 := hst2.get hY4
  have hWs : H.sub ((Z.free o1).own o2) := AHeap.sub_trans hYs hst2.sub
  generalize ((Z.free o1).own o2) = W at hst2 hW2 hW4 hWs ⊢
  repeat first|(apply gO;first|(apply x1;apply r0;apply r0)|(apply x2;apply r0;(with_reducible repeat first|assumption|apply q0|apply ps);apply r0)|(apply xst;apply r0;(with_reducible repeat first|assumption|apply q0|apply ps);apply r0)|apply w4|(apply x6;apply r0;omega))|(apply gW;first|apply w6|apply w7)|apply w5
  refine aw_cond rfl (fun e => ?_) (fun e => ?_)
  · rw [if_pos e] at hK
    repeat first|(apply gO;first|(apply x1;apply r0;apply r0)|(apply x2;apply r0;(with_reducible repeat first|assumption|apply q0|apply ps|apply gp);apply r0)|(apply xst;apply r0;(with_reducible repeat first|assumption|apply q0|apply ps|apply gp);apply r0)|apply w4)|(apply gW;first|apply w6|apply w7|apply wd)|apply w5
    exact rt1c (H' := H) rfl rfl (by apply q0) rfl (by rfl) (by exact wk_agg rfl) (by repeat first|assumption|(apply su1;assumption)) hK
  · rw [if_neg (by rw [e]; decide)] at hK
    repeat first|(apply gO;first|(apply x2;apply r0;(with_reducible repeat first|assumption|apply q0|apply gp);apply r0)|(apply xst;apply r0;(with_reducible repeat first|assumption|apply q0|apply gp);apply r0)|apply w4)|(apply gW;first|apply w6|apply w7|apply wa|apply wd)|apply w5
    exact rt1c (H' := H) rfl rfl (by apply q0) rfl (by rfl) (by exact wk_agg rfl) (by repeat first|assumption|(apply su1;assumption)) hK
end Abs
end Go.Proofs.YtpifnlodilcgkaaGreat

set_option linter.unusedVariables false
namespace Go.Proofs.YtpifnlodilcgkaaGreat
namespace Abs
set_option linter.unusedSimpArgs false
set_option maxRecDepth 10000
set_option maxHeartbeats 2000000
attribute [local irreducible] AOps AW AP ACalls thenQ inBlk noGoto
attribute [local irreducible] absOf endOf

/-! ### the document's chapter 11: take, Resolve -/
theorem tparent_c {T : Tab} {L : List Node} (ht : Tells T L) {i : Int} {H : AHeap} {K : AVal → AHeap → Prop} (hK : K (.i (T.parent i)) H) : ACalls Tryz.prog 71 [.agg (encT L), .i i] H K := by
  refine rparent_c (l_small ht.good.wf ht.rel) ?_
  rw [show (rtells L i L.length).headD 0 = T.parent i from l_parent ht.good.wf ht.rel i]
  exact hK
theorem tells_pos (T : Tab) (i : Int) : ∀ k : Nat, ∀ x ∈ T.tells i k, 1 ≤ x
  | 0, x, h => by cases h
  | k + 1, x, h => by
    simp only [Tab.tells] at h
    rcases List.mem_append.1 h with h | h
    · exact tells_pos T i k x h
    · split at h
      · obtain ⟨_, _, rfl⟩ := List.mem_map.1 h
        omega
      · cases h
theorem parent_nonneg (T : Tab) (i : Int) : 0 ≤ T.parent i := by
  unfold Tab.parent
  cases h : T.tells i T.room.toNat with
  | nil => exact Int.le_refl _
  | cons a l =>
    have := tells_pos T i T.room.toNat a (by rw [h]; exact List.mem_cons_self)
    show 0 ≤ a
    omega
theorem rtake_c {T : Tab} {L : List Node} (ht : Tells T L) {c : Cred} (hc : c.small) {follow : Bool} {s : RSt} {name : ByteArray} {rest : List ByteArray} (hl : s.left = name :: rest) (hll : s.left.length ≤ 10000) (hk8 : s.links ≤ 8) {H : AHeap} {K : AVal → AHeap → Prop}
    (hK : K (.agg (encQ (T.take c follow s name rest))) H) : ACalls Tryz.prog 45 [.agg (encT L), .agg (encCred c), .agg (encS s), .b follow] H K := by
  refine acalls_body Tryz.func45 rfl rfl rfl ?_
  have hg := ht.good
  have hle : encS s = [.sl (encStrs (name :: rest)) .no, .i s.pos, .i s.links, .b false, .i 0, .s ⟨#[]⟩, .i 0, .i 0] := by unfold encS; rw [hl]
  have hrl : rest.length ≤ 10000 := by rw [hl] at hll; simp only [List.length_cons] at hll; omega
  have lr : (encStrs rest).length = rest.length := by simp [encStrs]
  rw [hle]
  repeat first|apply w6|apply w7
  refine s_box rfl rfl rfl (fun b4 hb4 => ?_); have hb := hb4; (try simp only [put_none_iff, prot_none_iff] at hb); (repeat obtain ⟨_, _, hb⟩ := hb)
  skip
  refine s_box rfl rfl rfl (fun b5 hb5 => ?_); have hb := hb5; (try simp only [put_none_iff, prot_none_iff] at hb); (repeat obtain ⟨_, _, hb⟩ := hb)
  skip
  refine s_box rfl rfl rfl (fun b6 hb6 => ?_); have hb := hb6; (try simp only [put_none_iff, prot_none_iff] at hb); (repeat obtain ⟨_, _, hb⟩ := hb)
  skip
  refine s_alloc tk rfl rfl rfl (fun b8 hb8 => ?_); have hb := hb8; (try simp only [put_none_iff, prot_none_iff] at hb); (repeat obtain ⟨_, _, hb⟩ := hb)
  repeat first|(apply x1;apply r0;apply r0)|(apply x2;apply r0;(with_reducible repeat first|assumption|apply q0|apply q3);apply r0)|apply w4|apply w6|apply w7|apply w5
  refine s_index tk rfl rfl rfl rfl (by decide) (show (encStrs (name :: rest))[(0 : Int).toNat]? = some [.s name] from rfl) rfl ?_
  repeat first|(apply x1;apply r0;apply r0)|(apply x2;apply r0;(with_reducible repeat first|assumption|apply q0|apply q3);apply r0)|(apply x3;apply r0)|apply w4|apply w6|apply w7|apply w5
  refine s_slice tk rfl rfl rfl (strs_uni _) rfl rfl (by decide) (by simp only [encStrs, List.length_map, List.length_cons]; omega) (Int.le_refl _) ?_
  rw [show ((encStrs (name :: rest)).take ((((encStrs (name :: rest)).length : Nat) : Int)).toNat).drop (1 : Int).toNat = encStrs rest by
    rw [Int.toNat_natCast, List.take_length]; rfl]
  repeat first|(apply gO;first|(apply x1;apply r0;apply r0)|(apply x2;apply r0;(with_reducible repeat first|assumption|apply q0|apply ps|apply q3|apply gp);apply r0)|(apply xst;apply r0;(with_reducible repeat first|assumption|apply q0|apply ps|apply q3|apply gp);apply r0)|(apply x9;apply r0)|apply w4)|(apply gW;first|apply w6|apply w7)|apply w5
  refine rget_c ht.len ?_
  rw [ht.get]
  skip
  refine s_alloc tk rfl rfl rfl (fun b10 hb10 => ?_); have hb := hb10; (try simp only [put_none_iff, prot_none_iff] at hb); (repeat obtain ⟨_, _, hb⟩ := hb)
  repeat first|(apply x1;apply r0;apply r0)|(apply x2;apply r0;(with_reducible repeat first|apply q0|apply ps);apply r0)|(apply xst;apply r0;(with_reducible repeat first|apply q0|apply ps);apply r0)|apply w4|apply w6|apply w7|apply w5
  refine aw_cond rfl (fun k1 => ?_) (fun k1 => ?_)<;>first|replace k1:=not_t k1|replace k1:=not_f k1
  · have htk : T.take c follow s name rest = .inr (Found.zero, _) := (by unfold Tab.take; rw [if_pos k1])
    rw [htk] at hK
    repeat first|(apply x9;apply r0)|apply w6|apply w7
    refine failS_c ?_
    repeat first|(apply xst;apply r0;(with_reducible repeat first|assumption|apply ps|apply gp);apply r0)|apply w4|apply wd|apply w5|apply we
    exact rt1c (H' := H) rfl rfl (by apply q0) rfl (by rfl) (by exact wk_agg rfl) (by repeat first|exact s0|(apply su1;assumption)) hK
  repeat first|(apply x1;apply r0;apply r0)|(apply x2;apply r0;(with_reducible repeat first|assumption|apply q0|apply q3);apply r0)|(apply x9;apply r0)|apply w6|apply w7|apply wa|apply w5
  refine rcan1_c ht hc ⟨by decide, by decide⟩ ?_
  repeat first|(apply x1;apply r0;apply r0)|apply w4|apply w6|apply w7|apply w5
  refine aw_cond rfl (fun k2 => ?_) (fun k2 => ?_)
  · have k2' : T.can c s.pos 1 = false := by simpa using k2
    have htk : T.take c follow s name rest = .inr (Found.zero, _) := (by unfold Tab.take; rw [if_neg (fun h => h k1), if_pos k2'])
    rw [htk] at hK
    repeat first|(apply x9;apply r0)|apply w6|apply w7
    refine failS_c ?_
    repeat first|(apply xst;apply r0;(with_reducible repeat first|assumption|apply ps|apply gp);apply r0)|apply w4|apply wd|apply w5|apply we
    exact rt1c (H' := H) rfl rfl (by apply q0) rfl (by rfl) (by exact wk_agg rfl) (by repeat first|exact s0|(apply su1;assumption)) hK
  have k2' : ¬ T.can c s.pos 1 = false := by simpa using k2
  repeat first|(apply x1;apply r0;apply r0)|apply w4|apply w6|apply w7|apply wa|apply w5
  refine aw_cond rfl (fun k3 => ?_) (fun k3 => ?_)<;>first|replace k3:=of_decide_eq_true k3|replace k3:=of_decide_eq_false k3
  · have htk : T.take c follow s name rest = .inl _ := (by unfold Tab.take; rw [if_neg (fun h => h k1), if_neg k2', if_pos (show name = dotS from k3)])
    rw [htk] at hK
    repeat first|(apply gO;first|(apply x2;apply r0;(with_reducible repeat first|assumption|apply q0|apply ps|apply q3|apply gp);apply r0)|(apply xst;apply r0;(with_reducible repeat first|assumption|apply q0|apply ps|apply q3|apply gp);apply r0)|apply w4)|(apply gW;first|apply w6|apply w7|apply wd)|apply w5|apply we
    exact rt1c (H' := H) rfl rfl (by apply q0) rfl (by rfl) (by exact wk_agg rfl) (by repeat first|exact s0|(apply su1;assumption)) hK
  repeat first|(apply x1;apply r0;apply r0)|apply w4|apply w6|apply w7|apply wa|apply w5
  have hpn := parent_nonneg T s.pos
  refine aw_cond rfl (fun k4 => ?_) (fun k4 => ?_)<;>first|replace k4:=of_decide_eq_true k4|replace k4:=of_decide_eq_false k4
  · repeat first|(apply x1;apply r0;apply r0)|(apply x2;apply r0;(with_reducible repeat first|assumption|apply q0|apply q3);apply r0)|(apply x9;apply r0)|apply w6|apply w7
    refine tparent_c ht ?_
    repeat first|(apply x1;apply r0;apply r0)|apply w4|apply w5
    refine aw_cond rfl (fun k5 => ?_) (fun k5 => ?_)<;>first|replace k5:=of_decide_eq_true k5|replace k5:=of_decide_eq_false k5
    · repeat first|(apply x1;apply r0;apply r0)|(apply x2;apply r0;(with_reducible repeat first|assumption|apply q0|apply q3);apply r0)|(apply x9;apply r0)|apply w7
      refine tparent_c ht ?_
      have htk : T.take c follow s name rest = .inl _ := (by unfold Tab.take; rw [if_neg (fun h => h k1), if_neg k2', if_neg (show ¬ name = dotS from k3), if_pos (show name = dotdotS from k4), if_neg (show ¬ T.parent s.pos = 0 by omega)])
      rw [htk] at hK
      repeat first|(apply gO;first|(apply x1;apply r0;apply r0)|(apply x2;apply r0;(with_reducible repeat first|assumption|apply q0|apply ps|apply gp);apply r0)|(apply xst;apply r0;(with_reducible repeat first|assumption|apply q0|apply ps|apply gp);apply r0)|apply w4)|(apply gW;first|apply w6|apply w7|apply wd)|apply w5|apply we
      exact rt1c (H' := H) rfl rfl (by apply q0) rfl (by rfl) (by exact wk_agg rfl) (by repeat first|exact s0|(apply su1;assumption)) hK
    · have htk : T.take c follow s name rest = .inl _ := (by unfold Tab.take; rw [if_neg (fun h => h k1), if_neg k2', if_neg (show ¬ name = dotS from k3), if_pos (show name = dotdotS from k4), if_pos (show T.parent s.pos = 0 by omega)])
      rw [htk] at hK
      repeat first|(apply gO;first|(apply x2;apply r0;(with_reducible repeat first|assumption|apply q0|apply ps|apply q3|apply gp);apply r0)|(apply xst;apply r0;(with_reducible repeat first|assumption|apply q0|apply ps|apply q3|apply gp);apply r0)|apply w4)|(apply gW;first|apply w6|apply w7|apply wa|apply wd)|apply w5|apply we
      exact rt1c (H' := H) rfl rfl (by apply q0) rfl (by rfl) (by exact wk_agg rfl) (by repeat first|exact s0|(apply su1;assumption)) hK
  repeat first|(apply x1;apply r0;apply r0)|apply w4|apply w6|apply w7|apply wa|apply w5
  refine aw_cond rfl (fun k6 => ?_) (fun k6 => ?_)<;>first|replace k6:=of_decide_eq_true k6|replace k6:=of_decide_eq_false k6
  · have htk : T.take c follow s name rest = .inr (Found.zero, _) := (by unfold Tab.take; rw [if_neg (fun h => h k1), if_neg k2', if_neg (show ¬ name = dotS from k3), if_neg (show ¬ name = dotdotS from k4), if_pos k6])
    rw [htk] at hK
    repeat first|(apply x9;apply r0)|apply w6|apply w7
    refine failS_c ?_
    repeat first|(apply xst;apply r0;(with_reducible repeat first|assumption|apply ps|apply gp);apply r0)|apply w4|apply wd|apply w5|apply we
    exact rt1c (H' := H) rfl rfl (by apply q0) rfl (by rfl) (by exact wk_agg rfl) (by repeat first|exact s0|(apply su1;assumption)) hK
  have pre : T.take c follow s name rest = if (T.at s.pos).find name = 0 ∧ 0 < rest.length then .inr (Found.zero, 2)
      else if (T.at ((T.at s.pos).find name)).kind = 3 ∧ (follow = true ∨ 0 < rest.length) then
        (if s.links = 8 then .inr (Found.zero, 40)
         else .inl ⟨if absOf (T.at ((T.at s.pos).find name)).target = true then 1 else s.pos, s.links + 1, splitOf (T.at ((T.at s.pos).find name)).target ++ rest⟩)
      else if rest.length = 0 then .inr (⟨s.pos, name, (T.at s.pos).find name⟩, 0)
      else .inl ⟨(T.at s.pos).find name, s.links, rest⟩ := by
    unfold Tab.take; rw [if_neg (fun h => h k1), if_neg k2', if_neg (show ¬ name = dotS from k3), if_neg (show ¬ name = dotdotS from k4), if_neg k6]
  repeat first|(apply x1;apply r0;apply r0)|(apply x2;apply r0;(apply q0);apply r0)|(apply x9;apply r0)|apply w6|apply w7|apply wa|apply w5
  refine rfind_c (at_few hg s.pos).small ?_
  repeat first|(apply x1;apply r0;apply r0)|(apply x2;apply r0;(with_reducible repeat first|assumption|apply q0|apply q3);apply r0)|apply w4|apply w6|apply w7|apply w5
  refine s_gsplit rfl rfl (fun k7 => ?_) (fun k7 => ?_)<;>first|replace k7:=of_decide_eq_true k7|replace k7:=of_decide_eq_false k7
  · repeat first|(apply x1;apply r0;apply r0)|(apply x5;apply r0)|apply w4|apply w5
    refine aw_cond rfl (fun k8 => ?_) (fun k8 => ?_)<;>first|replace k8:=not_t k8|replace k8:=not_f k8
    · have htk : T.take c follow s name rest = .inr (Found.zero, _) := (by rw [pre, if_pos ⟨k7, by omega⟩])
      rw [htk] at hK
      repeat first|(apply x9;apply r0)|apply w6|apply w7
      refine failS_c ?_
      repeat first|(apply xst;apply r0;(with_reducible repeat first|assumption|apply ps|apply gp);apply r0)|apply w4|apply wd|apply w5|apply we
      exact rt1c (H' := H) rfl rfl (by apply q0) rfl (by rfl) (by exact wk_agg rfl) (by repeat first|exact s0|(apply su1;assumption)) hK
    · have pre2 := pre.trans (if_neg (by rintro ⟨_, h⟩; omega))
      repeat first|(apply x1;apply r0;apply r0)|(apply x2;apply r0;(with_reducible repeat first|assumption|apply q0|apply q3);apply r0)|(apply x9;apply r0)|apply w6|apply w7|apply wa|apply w5
      refine rget_c ht.len ?_
      rw [ht.get]
      skip
      refine s_alloc tk rfl rfl rfl (fun b14 hb14 => ?_); have hb := hb14; (try simp only [put_none_iff, prot_none_iff] at hb); (repeat obtain ⟨_, _, hb⟩ := hb)
      repeat first|(apply x1;apply r0;apply r0)|(apply x2;apply r0;(with_reducible repeat first|apply q0|apply ps);apply r0)|(apply xst;apply r0;(with_reducible repeat first|apply q0|apply ps);apply r0)|apply w4|apply w6|apply w7|apply w5
      refine s_gsplit rfl rfl (fun k9 => ?_) (fun k9 => ?_)<;>first|replace k9:=of_decide_eq_true k9|replace k9:=of_decide_eq_false k9
      · repeat first|(apply x1;apply r0;apply r0)|(apply x5;apply r0)
        refine s_gsplit rfl rfl (fun k10 => ?_) (fun k10 => ?_)<;>first|replace k10:=not_t k10|replace k10:=not_f k10
        · have pre3 := pre2.trans (if_pos ⟨k9, .inr (by omega)⟩)
          have hf8 := (at_few hg ((T.at s.pos).find name)).2.2.1
          repeat first|(apply gO;first|(apply x1;apply r0;apply r0)|(apply x2;apply r0;(with_reducible repeat first|assumption|apply q0|apply q3);apply r0)|(apply x5;apply r0)|(apply x9;apply r0)|apply w4|(apply w3;apply r0;apply r0))|(apply gW;first|apply w6|apply w7|(apply w8;apply r0))|apply w5
          refine link_c (s := ⟨s.pos, s.links, rest⟩) (target := (T.at ((T.at s.pos).find name)).target) (by omega) (show rest.length ≤ 100000 by omega) hk8 ?_
          by_cases h8 : s.links = 8
          · rw [if_pos h8]
            have htk := pre3.trans (if_pos h8)
            rw [htk] at hK
            repeat first|(apply xst;apply r0;(with_reducible repeat first|assumption|apply ps|apply gp);apply r0)|apply w4|apply wd|apply w5|apply we
            exact rt1c (H' := H) rfl rfl (by apply q0) rfl (by rfl) (by exact wk_agg rfl) (by repeat first|exact s0|(apply su1;assumption)) hK
          · rw [if_neg h8]
            have htk := pre3.trans (if_neg h8)
            rw [htk] at hK
            repeat first|(apply xst;apply r0;(with_reducible repeat first|assumption|apply ps|apply gp);apply r0)|apply w4|apply wd|apply w5|apply we
            exact rt1c (H' := H) rfl rfl (by apply q0) rfl (by rfl) (by exact wk_agg rfl) (by repeat first|exact s0|(apply su1;assumption)) hK
        · repeat first|(apply x1;apply r0;apply r0)|(apply x5;apply r0)|apply w4|apply w5
          rcases (show follow = true ∨ follow = false by cases follow <;> simp) with hfo | hfo
          · have pre3 := pre2.trans (if_pos ⟨k9, .inl hfo⟩)
            rw [hfo]
            have hf8 := (at_few hg ((T.at s.pos).find name)).2.2.1
            repeat first|(apply x1;apply r0;apply r0)|(apply x2;apply r0;(with_reducible repeat first|assumption|apply q0|apply q3);apply r0)|(apply x9;apply r0)|apply w6|apply w7|(apply w8;apply r0)
            refine link_c (s := ⟨s.pos, s.links, rest⟩) (target := (T.at ((T.at s.pos).find name)).target) (by omega) (show rest.length ≤ 100000 by omega) hk8 ?_
            by_cases h8 : s.links = 8
            · rw [if_pos h8]
              have htk := pre3.trans (if_pos h8)
              rw [htk] at hK
              repeat first|(apply xst;apply r0;(with_reducible repeat first|assumption|apply ps|apply gp);apply r0)|apply w4|apply wd|apply w5|apply we
              exact rt1c (H' := H) rfl rfl (by apply q0) rfl (by rfl) (by exact wk_agg rfl) (by repeat first|exact s0|(apply su1;assumption)) hK
            · rw [if_neg h8]
              have htk := pre3.trans (if_neg h8)
              rw [htk] at hK
              repeat first|(apply xst;apply r0;(with_reducible repeat first|assumption|apply ps|apply gp);apply r0)|apply w4|apply wd|apply w5|apply we
              exact rt1c (H' := H) rfl rfl (by apply q0) rfl (by rfl) (by exact wk_agg rfl) (by repeat first|exact s0|(apply su1;assumption)) hK
          · have pre3 := pre2.trans (if_neg (by rintro ⟨_, h | h⟩; rw [hfo] at h; cases h; omega))
            rw [hfo]
            repeat first|(apply x1;apply r0;apply r0)|apply w4|apply w6|apply w7|(apply w9;apply r0)|apply wa|apply w5
            refine aw_cond rfl (fun k11 => ?_) (fun k11 => ?_)
            · have k11' : rest.length = 0 := by have := of_decide_eq_true k11; omega
              have htk : T.take c follow s name rest = .inr (⟨s.pos, name, (T.at s.pos).find name⟩, 0) := by rw [pre3, if_pos k11']
              rw [htk] at hK
              repeat first|(apply gO;first|(apply x1;apply r0;apply r0)|(apply x2;apply r0;(with_reducible repeat first|assumption|apply q0|apply ps|apply q3|apply gp);apply r0)|(apply xst;apply r0;(with_reducible repeat first|assumption|apply q0|apply ps|apply q3|apply gp);apply r0)|(apply xbd;apply r0)|apply w4)|(apply gW;first|apply w6|apply w7|apply wd)|apply w5|apply we
              exact rt1c (H' := H) rfl rfl (by apply q0) rfl (by rfl) (by exact wk_agg rfl) (by repeat first|exact s0|(apply su1;assumption)) hK
            · have k11' : ¬ rest.length = 0 := by have := of_decide_eq_false k11; omega
              have htk : T.take c follow s name rest = .inl _ := (by rw [pre3, if_neg k11'])
              rw [htk] at hK
              repeat first|(apply gO;first|(apply x1;apply r0;apply r0)|(apply x2;apply r0;(with_reducible repeat first|assumption|apply q0|apply ps|apply gp);apply r0)|(apply xst;apply r0;(with_reducible repeat first|assumption|apply q0|apply ps|apply gp);apply r0)|apply w4)|(apply gW;first|apply w6|apply w7|apply wa|apply wd)|apply w5
              exact rt1c (H' := H) rfl rfl (by apply q0) rfl (by rfl) (by exact wk_agg rfl) (by repeat first|exact s0|(apply su1;assumption)) hK
      · have pre3 := pre2.trans (if_neg (by rintro ⟨h, _⟩; exact k9 h))
        repeat first|(apply gO;first|(apply x1;apply r0;apply r0)|apply w4|(apply w3;apply r0;apply r0))|(apply gW;first|apply w6|apply w7|(apply w9;apply r0)|apply wa)|apply w5
        refine aw_cond rfl (fun k11 => ?_) (fun k11 => ?_)
        · have k11' : rest.length = 0 := by have := of_decide_eq_true k11; omega
          have htk : T.take c follow s name rest = .inr (⟨s.pos, name, (T.at s.pos).find name⟩, 0) := by rw [pre3, if_pos k11']
          rw [htk] at hK
          repeat first|(apply gO;first|(apply x1;apply r0;apply r0)|(apply x2;apply r0;(with_reducible repeat first|assumption|apply q0|apply ps|apply q3|apply gp);apply r0)|(apply xst;apply r0;(with_reducible repeat first|assumption|apply q0|apply ps|apply q3|apply gp);apply r0)|(apply xbd;apply r0)|apply w4)|(apply gW;first|apply w6|apply w7|apply wd)|apply w5|apply we
          exact rt1c (H' := H) rfl rfl (by apply q0) rfl (by rfl) (by exact wk_agg rfl) (by repeat first|exact s0|(apply su1;assumption)) hK
        · have k11' : ¬ rest.length = 0 := by have := of_decide_eq_false k11; omega
          have htk : T.take c follow s name rest = .inl _ := (by rw [pre3, if_neg k11'])
          rw [htk] at hK
          repeat first|(apply gO;first|(apply x1;apply r0;apply r0)|(apply x2;apply r0;(with_reducible repeat first|assumption|apply q0|apply ps|apply gp);apply r0)|(apply xst;apply r0;(with_reducible repeat first|assumption|apply q0|apply ps|apply gp);apply r0)|apply w4)|(apply gW;first|apply w6|apply w7|apply wa|apply wd)|apply w5
          exact rt1c (H' := H) rfl rfl (by apply q0) rfl (by rfl) (by exact wk_agg rfl) (by repeat first|exact s0|(apply su1;assumption)) hK
  · have pre2 := pre.trans (if_neg (by rintro ⟨h, _⟩; exact k7 h))
    repeat first|(apply gO;first|(apply x1;apply r0;apply r0)|(apply x2;apply r0;(with_reducible repeat first|assumption|apply q0|apply q3);apply r0)|(apply x9;apply r0)|apply w4|(apply w3;apply r0;apply r0))|(apply gW;first|apply w6|apply w7|(apply w9;apply r0)|apply wa)|apply w5
    refine rget_c ht.len ?_
    rw [ht.get]
    skip
    refine s_alloc tk rfl rfl rfl (fun b14 hb14 => ?_); have hb := hb14; (try simp only [put_none_iff, prot_none_iff] at hb); (repeat obtain ⟨_, _, hb⟩ := hb)
    repeat first|(apply x1;apply r0;apply r0)|(apply x2;apply r0;(with_reducible repeat first|apply q0|apply ps);apply r0)|(apply xst;apply r0;(with_reducible repeat first|apply q0|apply ps);apply r0)|apply w4|apply w6|apply w7|apply w5
    refine s_gsplit rfl rfl (fun k9 => ?_) (fun k9 => ?_)<;>first|replace k9:=of_decide_eq_true k9|replace k9:=of_decide_eq_false k9
    · repeat first|(apply x1;apply r0;apply r0)|(apply x5;apply r0)
      refine s_gsplit rfl rfl (fun k10 => ?_) (fun k10 => ?_)<;>first|replace k10:=not_t k10|replace k10:=not_f k10
      · have pre3 := pre2.trans (if_pos ⟨k9, .inr (by omega)⟩)
        have hf8 := (at_few hg ((T.at s.pos).find name)).2.2.1
        repeat first|(apply gO;first|(apply x1;apply r0;apply r0)|(apply x2;apply r0;(with_reducible repeat first|assumption|apply q0|apply q3);apply r0)|(apply x5;apply r0)|(apply x9;apply r0)|apply w4|(apply w3;apply r0;apply r0))|(apply gW;first|apply w6|apply w7|(apply w8;apply r0))|apply w5
        refine link_c (s := ⟨s.pos, s.links, rest⟩) (target := (T.at ((T.at s.pos).find name)).target) (by omega) (show rest.length ≤ 100000 by omega) hk8 ?_
        by_cases h8 : s.links = 8
        · rw [if_pos h8]
          have htk := pre3.trans (if_pos h8)
          rw [htk] at hK
          repeat first|(apply xst;apply r0;(with_reducible repeat first|assumption|apply ps|apply gp);apply r0)|apply w4|apply wd|apply w5|apply we
          exact rt1c (H' := H) rfl rfl (by apply q0) rfl (by rfl) (by exact wk_agg rfl) (by repeat first|exact s0|(apply su1;assumption)) hK
        · rw [if_neg h8]
          have htk := pre3.trans (if_neg h8)
          rw [htk] at hK
          repeat first|(apply xst;apply r0;(with_reducible repeat first|assumption|apply ps|apply gp);apply r0)|apply w4|apply wd|apply w5|apply we
          exact rt1c (H' := H) rfl rfl (by apply q0) rfl (by rfl) (by exact wk_agg rfl) (by repeat first|exact s0|(apply su1;assumption)) hK
      · repeat first|(apply x1;apply r0;apply r0)|(apply x5;apply r0)|apply w4|apply w5
        rcases (show follow = true ∨ follow = false by cases follow <;> simp) with hfo | hfo
        · have pre3 := pre2.trans (if_pos ⟨k9, .inl hfo⟩)
          rw [hfo]
          have hf8 := (at_few hg ((T.at s.pos).find name)).2.2.1
          repeat first|(apply x1;apply r0;apply r0)|(apply x2;apply r0;(with_reducible repeat first|assumption|apply q0|apply q3);apply r0)|(apply x9;apply r0)|apply w6|apply w7|(apply w8;apply r0)
          refine link_c (s := ⟨s.pos, s.links, rest⟩) (target := (T.at ((T.at s.pos).find name)).target) (by omega) (show rest.length ≤ 100000 by omega) hk8 ?_
          by_cases h8 : s.links = 8
          · rw [if_pos h8]
            have htk := pre3.trans (if_pos h8)
            rw [htk] at hK
            repeat first|(apply xst;apply r0;(with_reducible repeat first|assumption|apply ps|apply gp);apply r0)|apply w4|apply wd|apply w5|apply we
            exact rt1c (H' := H) rfl rfl (by apply q0) rfl (by rfl) (by exact wk_agg rfl) (by repeat first|exact s0|(apply su1;assumption)) hK
          · rw [if_neg h8]
            have htk := pre3.trans (if_neg h8)
            rw [htk] at hK
            repeat first|(apply xst;apply r0;(with_reducible repeat first|assumption|apply ps|apply gp);apply r0)|apply w4|apply wd|apply w5|apply we
            exact rt1c (H' := H) rfl rfl (by apply q0) rfl (by rfl) (by exact wk_agg rfl) (by repeat first|exact s0|(apply su1;assumption)) hK
        · have pre3 := pre2.trans (if_neg (by rintro ⟨_, h | h⟩; rw [hfo] at h; cases h; omega))
          rw [hfo]
          repeat first|(apply x1;apply r0;apply r0)|apply w4|apply w6|apply w7|(apply w9;apply r0)|apply wa|apply w5
          refine aw_cond rfl (fun k11 => ?_) (fun k11 => ?_)
          · have k11' : rest.length = 0 := by have := of_decide_eq_true k11; omega
            have htk : T.take c follow s name rest = .inr (⟨s.pos, name, (T.at s.pos).find name⟩, 0) := by rw [pre3, if_pos k11']
            rw [htk] at hK
            repeat first|(apply gO;first|(apply x1;apply r0;apply r0)|(apply x2;apply r0;(with_reducible repeat first|assumption|apply q0|apply ps|apply q3|apply gp);apply r0)|(apply xst;apply r0;(with_reducible repeat first|assumption|apply q0|apply ps|apply q3|apply gp);apply r0)|(apply xbd;apply r0)|apply w4)|(apply gW;first|apply w6|apply w7|apply wd)|apply w5|apply we
            exact rt1c (H' := H) rfl rfl (by apply q0) rfl (by rfl) (by exact wk_agg rfl) (by repeat first|exact s0|(apply su1;assumption)) hK
          · have k11' : ¬ rest.length = 0 := by have := of_decide_eq_false k11; omega
            have htk : T.take c follow s name rest = .inl _ := (by rw [pre3, if_neg k11'])
            rw [htk] at hK
            repeat first|(apply gO;first|(apply x1;apply r0;apply r0)|(apply x2;apply r0;(with_reducible repeat first|assumption|apply q0|apply ps|apply gp);apply r0)|(apply xst;apply r0;(with_reducible repeat first|assumption|apply q0|apply ps|apply gp);apply r0)|apply w4)|(apply gW;first|apply w6|apply w7|apply wa|apply wd)|apply w5
            exact rt1c (H' := H) rfl rfl (by apply q0) rfl (by rfl) (by exact wk_agg rfl) (by repeat first|exact s0|(apply su1;assumption)) hK
    · have pre3 := pre2.trans (if_neg (by rintro ⟨h, _⟩; exact k9 h))
      repeat first|(apply gO;first|(apply x1;apply r0;apply r0)|apply w4|(apply w3;apply r0;apply r0))|(apply gW;first|apply w6|apply w7|(apply w9;apply r0)|apply wa)|apply w5
      refine aw_cond rfl (fun k11 => ?_) (fun k11 => ?_)
      · have k11' : rest.length = 0 := by have := of_decide_eq_true k11; omega
        have htk : T.take c follow s name rest = .inr (⟨s.pos, name, (T.at s.pos).find name⟩, 0) := by rw [pre3, if_pos k11']
        rw [htk] at hK
        repeat first|(apply gO;first|(apply x1;apply r0;apply r0)|(apply x2;apply r0;(with_reducible repeat first|assumption|apply q0|apply ps|apply q3|apply gp);apply r0)|(apply xst;apply r0;(with_reducible repeat first|assumption|apply q0|apply ps|apply q3|apply gp);apply r0)|(apply xbd;apply r0)|apply w4)|(apply gW;first|apply w6|apply w7|apply wd)|apply w5|apply we
        exact rt1c (H' := H) rfl rfl (by apply q0) rfl (by rfl) (by exact wk_agg rfl) (by repeat first|exact s0|(apply su1;assumption)) hK
      · have k11' : ¬ rest.length = 0 := by have := of_decide_eq_false k11; omega
        have htk : T.take c follow s name rest = .inl _ := (by rw [pre3, if_neg k11'])
        rw [htk] at hK
        repeat first|(apply gO;first|(apply x1;apply r0;apply r0)|(apply x2;apply r0;(with_reducible repeat first|assumption|apply q0|apply ps|apply gp);apply r0)|(apply xst;apply r0;(with_reducible repeat first|assumption|apply q0|apply ps|apply gp);apply r0)|apply w4)|(apply gW;first|apply w6|apply w7|apply wa|apply wd)|apply w5
        exact rt1c (H' := H) rfl rfl (by apply q0) rfl (by rfl) (by exact wk_agg rfl) (by repeat first|exact s0|(apply su1;assumption)) hK
end Abs
end Go.Proofs.YtpifnlodilcgkaaGreat

set_option linter.unusedVariables false
namespace Go.Proofs.YtpifnlodilcgkaaGreat
namespace Abs
set_option linter.unusedSimpArgs false
set_option maxRecDepth 10000
set_option maxHeartbeats 2000000
attribute [local irreducible] AOps AW AP ACalls thenQ inBlk noGoto
attribute [local irreducible] absOf endOf

/-! ### the document's chapter 11: Resolve -/
def qm : Sum RSt (Found × Int) → Nat
  | .inl s => s.m + 1
  | .inr _ => 0
def qok (T : Tab) (c : Cred) (follow : Bool) (R : Found × Int) : Sum RSt (Found × Int) → Nat → Prop
  | .inl s, f => s.links ≤ 8 ∧ s.m < f ∧ f ≤ 2000 ∧ T.walk c follow f s = R
  | .inr r, _ => r = R
theorem rresolve_c {T : Tab} {L : List Node} (ht : Tells T L) {c : Cred} (hc : c.small) {path : ByteArray} (hp : path.size ≤ 16777200) {follow : Bool} {H : AHeap} {K : AVal → AHeap → Prop}
    (hK : K (.tup [.agg (encF (T.resolve c path follow).1), .i (T.resolve c path follow).2]) H) : ACalls Tryz.prog 19 [.agg (encT L), .agg (encCred c), .s path, .b follow] H K := by
  refine acalls_body Tryz.func19 rfl rfl rfl ?_
  have hg := ht.good
  unfold Tab.resolve at hK
  repeat first|apply w6|apply w7
  refine s_box rfl rfl rfl (fun b4 hb4 => ?_); have hb := hb4; (try simp only [put_none_iff, prot_none_iff] at hb); (repeat obtain ⟨_, _, hb⟩ := hb)
  skip
  refine s_box rfl rfl rfl (fun b5 hb5 => ?_); have hb := hb5; (try simp only [put_none_iff, prot_none_iff] at hb); (repeat obtain ⟨_, _, hb⟩ := hb)
  skip
  refine s_alloc tk rfl rfl rfl (fun b8 hb8 => ?_); have hb := hb8; (try simp only [put_none_iff, prot_none_iff] at hb); (repeat obtain ⟨_, _, hb⟩ := hb)
  repeat first|(apply x1;apply r0;apply r0)|(apply x2;apply r0;(with_reducible repeat first|assumption|apply q0|apply q3);apply r0)|(apply x9;apply r0)|apply w4|apply w6|apply w7|apply w5
  refine rrfits_c ht hp ?_
  repeat first|(apply x1;apply r0;apply r0)|apply w4|apply w6|apply w7|apply w5
  refine aw_cond rfl (fun c1 => ?_) (fun c1 => ?_)<;>first|replace c1:=not_t c1|replace c1:=not_f c1
  · rw [if_neg c1] at hK
    repeat first|(apply gO;first|(apply x1;apply r0;apply r0)|(apply xst;apply r0;(apply ps);apply r0)|(apply xbd;apply r0)|apply w4)|(apply gW;first|apply w6|apply w7|apply wd)|apply w5|apply we
    exact rt2c (H' := H) rfl rfl (by apply q0) rfl (by rfl) rfl (by exact .pair (wk_agg rfl) (.refl _)) (by repeat first|exact s0|(apply su1;assumption)) hK
  rw [if_pos c1] at hK
  have hps : path.size ≤ 64 := by
    unfold Tab.fitsE at c1
    split at c1
    · cases c1
    · split at c1
      · cases c1
      · omega
  have hsl := splitOf_len path
  repeat first|(apply x1;apply r0;apply r0)|(apply x9;apply r0)|apply w6|apply w7|apply wa|apply w5
  generalize hX : AHeap.put _ b8 _ = X
  have z4 : Rd X b4 (encT L) := by rw [← hX]; exact (by apply rd_eq;(focus with_reducible repeat first|assumption|apply q0|apply q3);rfl)
  have z5 : Rd X b5 (encCred c) := by rw [← hX]; exact (by apply rd_eq;(focus with_reducible repeat first|assumption|apply q0|apply q3);rfl)
  have z8 : X b8 = some (.cells [.i 0, .s ⟨#[]⟩, .i 0]) := by rw [← hX]; exact (by apply get_eq;(focus apply ps);rfl)
  have zs : H.sub X := by rw [← hX]; exact (by repeat first|exact s0|(apply su1;assumption))
  have n45 : b4 ≠ b5 := by assumption
  have n48 : b4 ≠ b8 := by assumption
  have n58 : b5 ≠ b8 := by assumption
  have f4 : H b4 = none := by assumption
  have f5 : H b5 = none := by assumption
  have f8 : H b8 = none := by assumption
  clear hX
  refine rsplit_c (by omega) (fun o Y hown hes => ?_)
  have hs2 := hown.sub
  have v4 : Rd Y b4 (encT L) := by rcases z4 with h | h <;> first | exact .inl (hown.get h) | exact .inr (hown.get h)
  have y5 : Rd Y b5 (encCred c) := by rcases z5 with h | h <;> first | exact .inl (hown.get h) | exact .inr (hown.get h)
  have v8 := hown.get z8
  have ys : H.sub Y := AHeap.sub_trans zs hs2
  repeat first|(apply x1;apply r0;apply r0)|(apply xbd;apply r0)|apply w4|apply w6|apply w7|apply w5
  refine s_alloc tk rfl rfl rfl (fun b13 hb13 => ?_); have hb := hb13; (try simp only [put_none_iff, prot_none_iff] at hb); (repeat obtain ⟨_, _, hb⟩ := hb)
  have n4 : b4 ≠ b13 := rd_ne v4 hb
  have n5 : b5 ≠ b13 := rd_ne y5 hb
  have n8 : b8 ≠ b13 := get_ne v8 hb
  have f13 : H b13 = none := sub_none ys hb
  (apply xst;apply r0;(apply ps);apply r0)
  rw [put_put]
  refine aops_wk (ds := encQ (.inl ⟨1, 0, splitOf path⟩)) rfl ?_
  repeat first|apply w4|apply w6|apply wb|apply w5
  refine aw_loop (fun q : Sum RSt (Found × Int) × Nat => qok T c follow (T.walk c follow 2000 ⟨1, 0, splitOf path⟩) q.1 q.2)
    (fun q => [(3, .b follow), (4, .ptr b4 0), (5, .ptr b5 0), (8, .ptr b8 0), (13, .ptr b13 0)]) (fun q => Y.put b13 (.cells (encQ q.1))) (fun q => qm q.1)
    (.inl ⟨1, 0, splitOf path⟩, 2000) ⟨Nat.zero_le _, by show (8 - 0) * 110 + (splitOf path).length < 2000; omega, Nat.le_refl _, rfl⟩ (by repeat (first | exact Fr.sub_nil _ | refine Fr.sub_cons rfl ?_)) (AHeap.sub_refl _) ?_
  rintro ⟨q, fu⟩ hq
  cases q with
  | inr r =>
    have hq' : r = T.walk c follow 2000 ⟨1, 0, splitOf path⟩ := hq
    rw [← hq'] at hK
    show AW _ _ _ _ (Y.put b13 (.cells (encD r))) _
    repeat first|(apply gO;first|(apply x1;apply r0;apply r0)|(apply x2;apply r0;(apply q0);apply r0)|apply w4|(apply w3;apply r0;apply r0))|(apply gW;first|apply w6|apply w7|(apply w8;apply r0)|(apply w9;apply r0)|apply wc)|apply w5|apply wf|apply wh
    refine aw_prot [b13] (allc (by apply q0) (allc0 _)) ?_
    refine aw_plan mixed (.take 0 (.take 1 (.take 2 (.take 3 (.one 4 (.take 5 .done)))))) (by kernel_rfl) ?_
    repeat first|(apply xst;apply r0;(with_reducible repeat first|assumption|apply q0|apply pg|apply gp|apply gq|apply nm1|exact nm0|exact mm0);apply r0)|apply w4|(apply y1;apply r0;apply r0)|apply y0|(apply y4;apply r0)|(apply y2;apply r0;apply r0;(with_reducible repeat first|assumption|apply q0|apply pg|apply gp|apply gq|apply nm1|exact nm0|exact mm0);apply r0)
    refine prot_done_put (by simp only [List.mem_cons,List.not_mem_nil,or_false,not_or]; first|exact (by first|assumption|exact n1 ‹_› ‹_›|exact n2 ‹_› ‹_›|exact n3 ‹_› ‹_›|exact n4 ‹_› ‹_›)|exact ⟨(by first|assumption|exact n1 ‹_› ‹_›|exact n2 ‹_› ‹_›|exact n3 ‹_› ‹_›|exact n4 ‹_› ‹_›),(by first|assumption|exact n1 ‹_› ‹_›|exact n2 ‹_› ‹_›|exact n3 ‹_› ‹_›|exact n4 ‹_› ‹_›)⟩|exact ⟨(by first|assumption|exact n1 ‹_› ‹_›|exact n2 ‹_› ‹_›|exact n3 ‹_› ‹_›|exact n4 ‹_› ‹_›),(by first|assumption|exact n1 ‹_› ‹_›|exact n2 ‹_› ‹_›|exact n3 ‹_› ‹_›|exact n4 ‹_› ‹_›),(by first|assumption|exact n1 ‹_› ‹_›|exact n2 ‹_› ‹_›|exact n3 ‹_› ‹_›|exact n4 ‹_› ‹_›)⟩) ?_
    repeat first|apply wd|apply w5|apply we
    exact rt2c (H' := H) rfl rfl (by apply q0) rfl (by rfl) rfl (by exact .pair (wk_agg rfl) (.refl _)) (by repeat first|assumption|(apply su1;assumption)) hK
  | inl s =>
    obtain ⟨hk8, hm, hfu, hwk⟩ := hq
    show AW _ _ _ _ (Y.put b13 (.cells (encS s))) _
    obtain ⟨f, rfl⟩ : ∃ f, fu = f + 1 := ⟨fu - 1, by omega⟩
    have ll : (encStrs s.left).length = s.left.length := by simp [encStrs]
    repeat first|(apply x1;apply r0;apply r0)|(apply x2;apply r0;(apply q0);apply r0)|apply w6|apply w7
    refine s_gsplit rfl rfl (fun d => ?_) (fun d => ?_)<;>first|replace d:=of_decide_eq_true d|replace d:=of_decide_eq_false d
    case refine_2 =>
      have hl : s.left = [] := List.length_eq_zero_iff.1 (by omega)
      rw [walk_end hl] at hwk
      rw [← hwk] at hK
      repeat first|(apply gO;first|(apply x1;apply r0;apply r0)|(apply x2;apply r0;(with_reducible repeat first|assumption|apply q0|apply gp);apply r0)|(apply xst;apply r0;(with_reducible repeat first|assumption|apply q0|apply gp);apply r0)|(apply xbd;apply r0)|apply w4|(apply w3;apply r0;apply r0))|(apply gW;first|apply w6|apply w7|(apply w9;apply r0)|apply wa|apply wd|apply wc)|apply w5|apply wf|apply wh
      exact rt2c (H' := H) rfl rfl (by apply q0) rfl (by rfl) rfl (by exact .pair (wk_agg rfl) (.refl _)) (by repeat first|assumption|(apply su1;assumption)) hK
    obtain ⟨name, rest, hl⟩ : ∃ name rest, s.left = name :: rest := by
      cases hq : s.left with
      | nil => rw [hq] at d; simp [encStrs] at d
      | cons a r => exact ⟨a, r, rfl⟩
    repeat first|(apply gO;first|(apply x1;apply r0;apply r0)|(apply x2;apply r0;(with_reducible repeat first|assumption|apply q0|apply q3);apply r0)|(apply x5;apply r0)|(apply x9;apply r0)|apply w4)|(apply gW;first|apply w7|(apply w8;apply r0)|apply wa|apply wb)|apply w5
    refine rtake_c ht hc hl (by unfold RSt.m at hm; omega) hk8 ?_
    rw [walk_step hl] at hwk
    cases htk : T.take c follow s name rest with
    | inl s' =>
      obtain ⟨hm1, hm2⟩ := take_m hg hk8 hl htk
      rw [htk] at hwk
      show AOps _ _ _ _ (Fr.put _ _ (.agg (encS s'))) _ _
      repeat first|(apply xst;apply r0;(apply ps);apply r0)|apply w4|apply w5|apply wg
      exact ⟨(.inl s', f), ⟨hm2, by omega, by omega, hwk⟩, (by show s'.m + 1 < s.m + 1; omega), (by repeat (first | exact Fr.sub_nil _ | refine Fr.sub_cons rfl ?_)), (by rw [put_put]; exact s0)⟩
    | inr r =>
      rw [htk] at hwk
      show AOps _ _ _ _ (Fr.put _ _ (.agg (encD r))) _ _
      repeat first|(apply xst;apply r0;(apply ps);apply r0)|apply w4|apply w5|apply wg
      exact ⟨(.inr r, f), hwk, Nat.succ_pos _, (by repeat (first | exact Fr.sub_nil _ | refine Fr.sub_cons rfl ?_)), (by rw [put_put]; exact s0)⟩
end Abs
end Go.Proofs.YtpifnlodilcgkaaGreat
