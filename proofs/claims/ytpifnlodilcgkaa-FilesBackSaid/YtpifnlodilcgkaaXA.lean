import Derived.Test.YtpifnlodilcgkaaX7
import Derived.Test.YtpifnlodilcgkaaX1
import Derived.Test.YtpifnlodilcgkaaX3
import Derived.Test.YtpifnlodilcgkaaT1
set_option linter.unusedVariables false
namespace Go.Proofs.Ytpifnlodilcgkaa
namespace Abs
set_option linter.unusedSimpArgs false
set_option maxRecDepth 10000
set_option maxHeartbeats 2000000
attribute [local irreducible] AOps AW AP ACalls thenQ inBlk noGoto
attribute [local irreducible] absOf endOf

/-! ### package resolve -/
structure Found where
  dir : Int
  name : ByteArray
  node : Int
def encF (f : Found) : List AVal := [.i f.dir, .s f.name, .i f.node]
def Found.zero : Found := ⟨0, ⟨#[]⟩, 0⟩
def Tab.can (T : Tab) (c : Cred) (i want : Int) : Bool := T.has i && c.can (T.at i).uid (T.at i).gid (T.at i).mode want
def Tab.fitsE (T : Tab) (path : ByteArray) : Int := if path = ⟨#[]⟩ then 2 else if 64 < (path.size : Int) then 36 else if hasB path 0 = true then 22 else if T.has 1 = true then 0 else 2
theorem tget_c {t : Nat} {T : Tab} (hw : T.wf) {i : Int} {H : AHeap} (hT : Rd H t (encTab T)) {K : AVal → AHeap → Prop}
    (hK : K (.tup [.agg (encNode (T.at i)), .b (T.has i)]) H) : ACalls Try.prog 17 [.ptr t 0, .i i] H K := get_c hw hT hK
theorem can1_c {t : Nat} {T : Tab} (hw : T.wf) {c : Cred} (hc : c.small) {i want : Int} {H : AHeap} (hT : Rd H t (encTab T)) {K : AVal → AHeap → Prop} (hK : K (.b (T.can c i want)) H) :
    ACalls Try.prog 42 [.ptr t 0, .agg (encCred c), .i i, .i want] H K := by
  refine acalls_body Try.func42 rfl rfl rfl ?_
  unfold Tab.can at hK
  repeat first|apply w6|apply w7
  refine s_box rfl rfl rfl (fun b5 hb5 => ?_); have hb := hb5; (try simp only [put_none_iff, prot_none_iff] at hb); (repeat obtain ⟨_, _, hb⟩ := hb)
  repeat first|(apply x1;apply r0;apply r0)|(apply x9;apply r0)|apply w4|apply w6|apply w7|apply w5
  refine tget_c hw (by with_reducible repeat first|assumption|apply q3|exact n1 ‹_› ‹_›) ?_
  repeat (apply x1;apply r0;apply r0)
  refine s_alloc tk rfl rfl rfl (fun b9 hb9 => ?_); have hb := hb9; (try simp only [put_none_iff, prot_none_iff] at hb); (repeat obtain ⟨_, _, hb⟩ := hb)
  (apply xst;apply r0;(apply ps);apply r0)
  rw [put_put]
  cases hh : T.has i with
  | false =>
    rw [hh, Bool.false_and] at hK
    repeat first|(apply x1;apply r0;apply r0)|apply w4|(apply w3;apply r0;apply r0)|apply w6|apply w7|apply wd|apply w5
    exact rt1 (H' := H) rfl rfl (.refl _) (by repeat first|exact s0|(apply su1;assumption)) hK
  | true =>
    rw [hh, Bool.true_and] at hK
    repeat first|(apply gO;first|(apply x1;apply r0;apply r0)|(apply x2;apply r0;(with_reducible repeat first|assumption|apply q0|apply q3);apply r0)|(apply x5;apply r0)|(apply x9;apply r0)|apply w4)|(apply gW;first|apply w6|apply w7)|apply w5
    refine can_c hc ?_
    repeat first|(apply x1;apply r0;apply r0)|apply w4|apply wd|apply w5
    exact rt1 (H' := H) rfl rfl (.refl _) (by repeat first|exact s0|(apply su1;assumption)) hK
theorem resfits_c {t : Nat} {T : Tab} (hw : T.wf) {path : ByteArray} {H : AHeap} (hT : Rd H t (encTab T)) {K : AVal → AHeap → Prop} (hK : K (.i (T.fitsE path)) H) :
    ACalls Try.prog 75 [.ptr t 0, .s path] H K := by
  refine acalls_body Try.func75 rfl rfl rfl ?_
  unfold Tab.fitsE at hK
  repeat first|(apply x1;apply r0;apply r0)|apply w4|apply w6|apply w7|apply wb|apply w5
  refine aw_cond rfl (fun c1 => ?_) (fun c1 => ?_)<;>first|replace c1:=of_decide_eq_true c1|replace c1:=of_decide_eq_false c1
  · rw [if_pos c1] at hK
    repeat first|(apply gO;first|(apply x1;apply r0;apply r0)|apply w4)|(apply gW;first|apply w6|apply w7|apply wd)|apply w5|apply we|apply wj
    exact rt1 rfl rfl (.refl _) (AHeap.sub_refl _) hK
  rw [if_neg c1] at hK
  repeat first|(apply x1;apply r0;apply r0)|apply w4|apply w6|apply w7|apply w5
  refine aw_cond rfl (fun c2 => ?_) (fun c2 => ?_)<;>first|replace c2:=of_decide_eq_true c2|replace c2:=of_decide_eq_false c2
  · rw [if_pos c2] at hK
    repeat first|(apply gO;first|(apply x1;apply r0;apply r0)|apply w4)|(apply gW;first|apply w6|apply w7|apply wd)|apply w5|apply we|apply wj
    exact rt1 rfl rfl (.refl _) (AHeap.sub_refl _) hK
  rw [if_neg c2] at hK
  repeat first|(apply x1;apply r0;apply r0)|(apply x9;apply r0)|apply w6|apply w7
  refine indexByte_c (c := 0) rfl (fun r hr => ?_)
  repeat first|(apply x1;apply r0;apply r0)|apply w4|apply w5
  refine aw_cond rfl (fun c3 => ?_) (fun c3 => ?_)<;>first|replace c3:=of_decide_eq_true c3|replace c3:=of_decide_eq_false c3
  · have : hasB path 0 = true := by
      cases hb : hasB path 0 with
      | true => rfl
      | false => rw [hb] at hr; simp at hr; omega
    rw [if_pos this] at hK
    repeat first|(apply gO;first|(apply x1;apply r0;apply r0)|apply w4)|(apply gW;first|apply w6|apply w7|apply wd)|apply w5|apply we|apply wj
    exact rt1 rfl rfl (.refl _) (AHeap.sub_refl _) hK
  have : hasB path 0 = false := by
    cases hb : hasB path 0 with
    | false => rfl
    | true => rw [hb] at hr; simp at hr; omega
  rw [this, if_neg (by decide)] at hK
  repeat first|(apply x1;apply r0;apply r0)|(apply x9;apply r0)|apply w6|apply w7|apply wa|apply w5|apply wg
  refine tget_c hw (by with_reducible assumption) ?_
  repeat (apply x1;apply r0;apply r0)
  refine s_alloc tk rfl rfl rfl (fun b5 hb5 => ?_); have hb := hb5; (try simp only [put_none_iff, prot_none_iff] at hb); (repeat obtain ⟨_, _, hb⟩ := hb)
  (apply xst;apply r0;(apply ps);apply r0)
  rw [put_put]
  repeat first|(apply x1;apply r0;apply r0)|apply w4|apply w6|apply w7|apply w5
  refine aw_cond rfl (fun c4 => ?_) (fun c4 => ?_)
  · have c4' : T.has 1 = false := by simpa using c4
    rw [c4', if_neg (by decide)] at hK
    repeat first|(apply x1;apply r0;apply r0)|apply w4|apply w6|apply w7|apply wd|apply w5|apply we
    exact rt1 (H' := H) rfl rfl (.refl _) (by repeat first|exact s0|(apply su1;assumption)) hK
  · have c4' : T.has 1 = true := by simpa using c4
    rw [c4', if_pos rfl] at hK
    repeat first|(apply x1;apply r0;apply r0)|apply w4|apply w6|apply w7|apply wa|apply wd|apply w5
    exact rt1 (H' := H) rfl rfl (.refl _) (by repeat first|exact s0|(apply su1;assumption)) hK
structure RSt where
  pos : Int
  links : Nat
  left : List ByteArray
def dotdotS : ByteArray := ⟨#[46, 46]⟩
/-- One name is taken. -/
def Tab.take (T : Tab) (c : Cred) (follow : Bool) (s : RSt) (name : ByteArray) (rest : List ByteArray) : Sum RSt (Found × Int) :=
  if ¬ (T.at s.pos).kind = 2 then .inr (Found.zero, 20)
  else if T.can c s.pos 1 = false then .inr (Found.zero, 13)
  else if name = dotS then .inl ⟨s.pos, s.links, rest⟩
  else if name = dotdotS then .inl ⟨if T.parent s.pos = 0 then s.pos else T.parent s.pos, s.links, rest⟩
  else if 12 < (name.size : Int) then .inr (Found.zero, 36)
  else if (T.at s.pos).find name = 0 ∧ 0 < rest.length then .inr (Found.zero, 2)
  else if (T.at ((T.at s.pos).find name)).kind = 3 ∧ (follow = true ∨ 0 < rest.length) then
    (if s.links = 8 then .inr (Found.zero, 40)
     else .inl ⟨if absOf (T.at ((T.at s.pos).find name)).target = true then 1 else s.pos, s.links + 1, splitOf (T.at ((T.at s.pos).find name)).target ++ rest⟩)
  else if rest.length = 0 then .inr (⟨s.pos, name, (T.at s.pos).find name⟩, 0)
  else .inl ⟨(T.at s.pos).find name, s.links, rest⟩
def Tab.walk (T : Tab) (c : Cred) (follow : Bool) : Nat → RSt → Found × Int
  | 0, _ => (Found.zero, 0)
  | f + 1, s => match s.left with
    | [] => (⟨s.pos, ⟨#[]⟩, s.pos⟩, 0)
    | name :: rest => match T.take c follow s name rest with
      | .inl s' => T.walk c follow f s'
      | .inr r => r
def Tab.resolve (T : Tab) (c : Cred) (path : ByteArray) (follow : Bool) : Found × Int :=
  if T.fitsE path = 0 then T.walk c follow 2000 ⟨1, 0, splitOf path⟩ else (Found.zero, T.fitsE path)
def RSt.m (s : RSt) : Nat := (8 - s.links) * 110 + s.left.length
structure RSt.ok (s : RSt) : Prop where
  links : s.links ≤ 8
theorem take_m {T : Tab} (hg : T.good) {c : Cred} {follow : Bool} {s s' : RSt} {name : ByteArray} {rest : List ByteArray} (hs : s.links ≤ 8) (hl : s.left = name :: rest) (h : T.take c follow s name rest = .inl s') : s'.m < s.m ∧ s'.links ≤ 8 := by
  have hm : s.m = (8 - s.links) * 110 + rest.length + 1 := by unfold RSt.m; rw [hl]; simp only [List.length_cons]; omega
  unfold Tab.take at h
  split at h
  · cases h
  split at h
  · cases h
  split at h
  · cases h; exact ⟨by rw [hm]; show (8 - s.links) * 110 + rest.length < _; omega, hs⟩
  split at h
  · cases h; exact ⟨by rw [hm]; show (8 - s.links) * 110 + rest.length < _; omega, hs⟩
  split at h
  · cases h
  split at h
  · cases h
  split at h
  · split at h
    · cases h
    · rename_i h8
      cases h
      have hf := (at_few hg ((T.at s.pos).find name)).2.2.1
      have := splitOf_len (T.at ((T.at s.pos).find name)).target
      refine ⟨?_, by show s.links + 1 ≤ 8; omega⟩
      rw [hm]
      show (8 - (s.links + 1)) * 110 + (splitOf _ ++ rest).length < _
      rw [List.length_append]; omega
  split at h
  · cases h
  · cases h; exact ⟨by rw [hm]; show (8 - s.links) * 110 + rest.length < _; omega, hs⟩
end Abs
end Go.Proofs.Ytpifnlodilcgkaa

set_option linter.unusedVariables false
namespace Go.Proofs.Ytpifnlodilcgkaa
namespace Abs
set_option linter.unusedSimpArgs false
set_option maxRecDepth 10000
set_option maxHeartbeats 2000000
attribute [local irreducible] AOps AW AP ACalls thenQ inBlk noGoto
attribute [local irreducible] absOf endOf

/-! ### package resolve: Resolve -/
theorem ahead_c {target : ByteArray} (ht : target.size ≤ 1000) {left : List ByteArray} (hll : left.length ≤ 100000) {o : Own} {pos : Int} {links : Nat} (hlk : links ≤ 1000) {b14 b11 b12 : Nat} {Y : AHeap} {K : AVal → AHeap → Prop}
    (h14 : Y b14 = some (.cells [.sl (encStrs left) o])) (h11 : Y b11 = some (.cells [.i pos])) (h12 : Y b12 = some (.cells [.i links])) (n1 : b14 ≠ b11) (n2 : b14 ≠ b12) (n3 : b11 ≠ b12)
    (hK : K (.tup []) (((Y.put b14 (.cells [.sl (encStrs (splitOf target ++ left)) .no])).put b11 (.cells [.i (if absOf target = true then 1 else pos)])).put b12 (.cells [.i ((links + 1 : Nat) : Int)]))) :
    ACalls Try.prog 77 [.s target, .ptr b14 0, .ptr b11 0, .ptr b12 0] Y K := by
  refine acalls_body Try.func77 rfl rfl rfl ?_
  have hsl := splitOf_len target
  have l1 : (encStrs (splitOf target)).length = (splitOf target).length := by simp [encStrs]
  have l2 : (encStrs left).length = left.length := by simp [encStrs]
  repeat first|(apply x1;apply r0;apply r0)|(apply x9;apply r0)|apply w6|apply w7
  refine split_c (by omega) ?_
  repeat first|(apply x1;apply r0;apply r0)|(apply x2;apply r0;(with_reducible repeat exact q1 ‹_›);apply r0)|apply w4|apply w6|apply w7|apply w5
  refine s_append tk rfl rfl rfl rfl rfl (strs_uni _) (strs_uni _) (strs_flat _) trivial trivial (by rw [l1, l2]; omega) (fun o' ha he => ?_)
  rw [show encStrs (splitOf target) ++ encStrs left = encStrs (splitOf target ++ left) by simp [encStrs]]
  have hg : ∀ x p, Y x = some p → ((Y.free .full).own o') x = some p := fun x p hx => by
    rw [free_own_get (by intro e; cases e) (apart_ne ha hx (by intro e; cases e)), hx]
  have hsub : Y.sub ((Y.free .full).own o') := sub_free ha rfl
  have g14 := hg _ _ h14
  have g11 := hg _ _ h11
  have g12 := hg _ _ h12
  generalize ((Y.free .full).own o') = Z at hsub g14 g11 g12 ⊢
  (apply xst;apply r0;(with_reducible assumption);apply r0)
  refine aops_wk (ds := [.sl (encStrs (splitOf target ++ left)) .no]) rfl ?_
  have n1' := n1.symm
  have n2' := n2.symm
  have n3' := n3.symm
  repeat first|(apply x1;apply r0;apply r0)|apply w4|apply w6|apply w7|apply w5
  refine aw_cond rfl (fun e => ?_) (fun e => ?_)
  · rw [if_pos e] at hK
    repeat first|(apply x2;apply r0;(with_reducible repeat first|assumption|exact q1 ‹_›|apply q3|apply gp);apply r0)|(apply xst;apply r0;(with_reducible repeat first|assumption|exact q1 ‹_›|apply q3|apply gp);apply r0)|apply w4|(apply x6;apply r0;omega)|apply w7|apply w5
    refine rt0n rfl ?_ hK
    refine AHeap.put_sub (AHeap.put_sub (AHeap.put_sub hsub _ _) _ _) _ _
  · rw [if_neg (by rw [e]; decide)] at hK
    repeat first|(apply x2;apply r0;(with_reducible repeat first|assumption|exact q1 ‹_›|apply q3|apply gp);apply r0)|(apply xst;apply r0;(with_reducible repeat first|assumption|exact q1 ‹_›|apply q3|apply gp);apply r0)|apply w4|(apply x6;apply r0;omega)|apply w7|apply wa|apply w5
    refine rt0n rfl ?_ hK
    refine AHeap.put_sub ?_ _ _
    rw [put_comm n1', put_id' h11]
    exact AHeap.put_sub hsub _ _
structure RH (H Y : AHeap) (t b5 b8 b11 b12 b14 : Nat) (T : Tab) (c : Cred) (s : RSt) : Prop where
  cT : Rd Y t (encTab T)
  c5 : Rd Y b5 (encCred c)
  c8 : Y b8 = some (.cells [.i 0, .s ⟨#[]⟩, .i 0])
  c11 : Y b11 = some (.cells [.i s.pos])
  c12 : Y b12 = some (.cells [.i s.links])
  c14 : Y b14 = some (.cells [.sl (encStrs s.left) .no])
  sub : H.sub Y
end Abs
end Go.Proofs.Ytpifnlodilcgkaa

set_option linter.unusedVariables false
namespace Go.Proofs.Ytpifnlodilcgkaa
namespace Abs
set_option linter.unusedSimpArgs false
set_option maxRecDepth 10000
set_option maxHeartbeats 2000000
attribute [local irreducible] AOps AW AP ACalls thenQ inBlk noGoto
attribute [local irreducible] absOf endOf

theorem walk_step {T : Tab} {c : Cred} {follow : Bool} {f : Nat} {s : RSt} {name : ByteArray} {rest : List ByteArray} (hl : s.left = name :: rest) : T.walk c follow (f + 1) s = match T.take c follow s name rest with
      | .inl s' => T.walk c follow f s'
      | .inr r => r := by
  rw [Tab.walk, hl] <;> rfl
theorem walk_end {T : Tab} {c : Cred} {follow : Bool} {f : Nat} {s : RSt} (hl : s.left = []) : T.walk c follow (f + 1) s = (⟨s.pos, ⟨#[]⟩, s.pos⟩, 0) := by
  rw [Tab.walk, hl]
theorem resolve_c {t : Nat} {T : Tab} (hg : T.good) {c : Cred} (hc : c.small) {path : ByteArray} {follow : Bool} {H : AHeap} (hT : Rd H t (encTab T)) {K : AVal → AHeap → Prop}
    (hK : K (.tup [.agg (encF (T.resolve c path follow).1), .i (T.resolve c path follow).2]) H) : ACalls Try.prog 40 [.ptr t 0, .agg (encCred c), .s path, .b follow] H K := by
  refine acalls_body Try.func40 rfl rfl rfl ?_
  have hw := hg.wf
  unfold Tab.resolve at hK
  repeat first|apply w6|apply w7
  refine s_box rfl rfl rfl (fun b5 hb5 => ?_); have hb := hb5; (try simp only [put_none_iff, prot_none_iff] at hb); (repeat obtain ⟨_, _, hb⟩ := hb)
  skip
  refine s_alloc tk rfl rfl rfl (fun b8 hb8 => ?_); have hb := hb8; (try simp only [put_none_iff, prot_none_iff] at hb); (repeat obtain ⟨_, _, hb⟩ := hb)
  repeat first|(apply x1;apply r0;apply r0)|(apply x9;apply r0)|apply w4|apply w6|apply w7|apply wk|apply w5
  refine resfits_c hw (by with_reducible repeat first|assumption|apply q3|exact n1 ‹_› ‹_›) ?_
  repeat first|(apply x1;apply r0;apply r0)|apply w4|apply w6|apply w7|apply w5
  refine aw_cond rfl (fun c1 => ?_) (fun c1 => ?_)<;>first|replace c1:=not_t c1|replace c1:=not_f c1
  · rw [if_neg c1] at hK
    repeat first|(apply gO;first|(apply x1;apply r0;apply r0)|(apply xst;apply r0;(apply ps);apply r0)|(apply xbd;apply r0)|apply w4)|(apply gW;first|apply w6|apply w7|apply wd)|apply w5|apply we|apply wm
    exact rt2c (H' := H) rfl rfl (by apply q0) rfl (by rfl) rfl (by exact .pair (wk_agg rfl) (.refl _)) (by repeat first|exact s0|(apply su1;assumption)) hK
  rw [if_pos c1] at hK
  have hps : path.size ≤ 64 := by
    unfold Tab.fitsE at c1
    split at c1
    · cases c1
    · split at c1
      · cases c1
      · omega
  repeat first|apply w6|apply w7|apply wa|apply w5
  refine s_alloc tk rfl rfl rfl (fun b11 hb11 => ?_); have hb := hb11; (try simp only [put_none_iff, prot_none_iff] at hb); (repeat obtain ⟨_, _, hb⟩ := hb)
  skip
  refine s_alloc tk rfl rfl rfl (fun b12 hb12 => ?_); have hb := hb12; (try simp only [put_none_iff, prot_none_iff] at hb); (repeat obtain ⟨_, _, hb⟩ := hb)
  repeat first|(apply x1;apply r0;apply r0)|(apply xst;apply r0;(with_reducible repeat first|assumption|apply ps|apply gp);apply r0)|(apply x9;apply r0)|apply w4|apply w6|apply w7|apply w5
  refine split_c (by omega) ?_
  have hsl := splitOf_len path
  repeat (apply x1;apply r0;apply r0)
  refine s_alloc tk rfl rfl rfl (fun b14 hb14 => ?_); have hb := hb14; (try simp only [put_none_iff, prot_none_iff] at hb); (repeat obtain ⟨_, _, hb⟩ := hb)
  apply x1; apply r0; apply r0
  (apply xst;apply r0;(apply ps);apply r0)
  refine aops_wk (ds := [.sl (encStrs (splitOf path)) .no]) rfl ?_
  generalize hX : AHeap.put _ b14 _ = X
  have hR : RH H X t b5 b8 b11 b12 b14 T c ⟨1, 0, splitOf path⟩ := by
    rw [← hX]
    exact ⟨(by apply rd_eq;(focus with_reducible repeat first|assumption|apply q3|exact n1 ‹_› ‹_›);rfl), (by apply rd_eq;(focus with_reducible repeat first|assumption|apply q0|apply q3);rfl), (by apply get_eq;(focus with_reducible repeat first|assumption|apply ps|apply gp);rfl), (by apply get_eq;(focus with_reducible repeat first|assumption|apply ps|apply gp);rfl), (by apply get_eq;(focus with_reducible repeat first|assumption|apply ps|apply gp);rfl), (by apply get_eq;(focus apply ps);rfl), (by repeat first|exact s0|(apply su1;assumption))⟩
  clear hX
  have nt5 : t ≠ b5 := rd_ne hT (by assumption)
  have nu5 := nt5.symm
  have nt8 : t ≠ b8 := rd_ne hT (by assumption)
  have nu8 := nt8.symm
  have nt11 : t ≠ b11 := rd_ne hT (by assumption)
  have nu11 := nt11.symm
  have nt12 : t ≠ b12 := rd_ne hT (by assumption)
  have nu12 := nt12.symm
  have nt14 : t ≠ b14 := rd_ne hT (by assumption)
  have nu14 := nt14.symm
  repeat first|(apply x1;apply r0;apply r0)|apply w4|apply w6|apply w7|apply w5
  refine aw_label ?_
  repeat first|apply w6|apply wb|apply w5
  refine aw_loop (fun q : RSt × Nat × AHeap => RH H q.2.2 t b5 b8 b11 b12 b14 T c q.1 ∧ q.1.links ≤ 8 ∧ q.1.m < q.2.1 ∧ q.2.1 ≤ 2000 ∧ T.walk c follow q.2.1 q.1 = T.walk c follow 2000 ⟨1, 0, splitOf path⟩)
    (fun q => [(0, .ptr t 0), (3, .b follow), (5, .ptr b5 0), (8, .ptr b8 0), (11, .ptr b11 0), (12, .ptr b12 0), (14, .ptr b14 0), (15, .clo 77 [] [.ptr b14 0, .ptr b11 0, .ptr b12 0])]) (fun q => q.2.2) (fun q => q.1.m)
    (⟨1, 0, splitOf path⟩, 2000, X) ⟨hR, Nat.zero_le _, by show (8 - 0) * 110 + (splitOf path).length < 2000; omega, Nat.le_refl _, rfl⟩ (by repeat (first | exact Fr.sub_nil _ | refine Fr.sub_cons rfl ?_)) (AHeap.sub_refl _) ?_
  rintro ⟨s, fu, Y⟩ ⟨hY, hk8, hm, hfu, hwk⟩
  simp only at hY hk8 hm hfu hwk
  have yT := hY.cT
  have y5 := hY.c5
  have y8 := hY.c8
  have y11 := hY.c11
  have y12 := hY.c12
  have y14 := hY.c14
  have ys := hY.sub
  obtain ⟨f, rfl⟩ : ∃ f, fu = f + 1 := ⟨fu - 1, by omega⟩
  have ll : (encStrs s.left).length = s.left.length := by simp [encStrs]
  repeat first|(apply x1;apply r0;apply r0)|(apply x2;apply r0;(with_reducible repeat exact q1 ‹_›);apply r0)|apply w4|apply w6|apply w7|apply w5
  refine aw_cond rfl (fun d => ?_) (fun d => ?_)<;>first|replace d:=of_decide_eq_true d|replace d:=of_decide_eq_false d
  case refine_2 =>
    have hl : s.left = [] := List.length_eq_zero_iff.1 (by omega)
    rw [walk_end hl] at hwk
    rw [← hwk] at hK
    repeat first|(apply gO;first|(apply x1;apply r0;apply r0)|(apply x2;apply r0;(with_reducible repeat first|assumption|exact q1 ‹_›);apply r0)|(apply xst;apply r0;(with_reducible repeat first|assumption|exact q1 ‹_›);apply r0)|(apply xbd;apply r0)|apply w4)|(apply gW;first|apply w6|apply w7|apply wd|apply wc)|apply w5|apply wf|apply wh|apply wm
    exact rt2c (H' := H) rfl rfl (by apply q0) rfl (by rfl) rfl (by exact .pair (wk_agg rfl) (.refl _)) (by repeat first|assumption|(apply su1;assumption)) hK
  obtain ⟨name, rest, hl⟩ : ∃ name rest, s.left = name :: rest := by
    cases hq : s.left with
    | nil => rw [hq] at d; simp [encStrs] at d
    | cons a r => exact ⟨a, r, rfl⟩
  rw [hl] at y14
  repeat first|(apply x2;apply r0;(with_reducible repeat exact q1 ‹_›);apply r0)|apply w6|apply w7|apply wa|apply wb|apply w5
  refine s_index tk rfl rfl rfl rfl (by decide) (show (encStrs (name :: rest))[(0 : Int).toNat]? = some [.s name] from rfl) rfl ?_
  repeat first|(apply x1;apply r0;apply r0)|(apply x2;apply r0;(with_reducible repeat exact q1 ‹_›);apply r0)|(apply x3;apply r0)|apply w4|apply w6|apply w7|apply w5
  refine s_slice tk rfl rfl rfl (strs_uni _) rfl rfl (by decide) (by simp only [encStrs, List.length_map, List.length_cons]; omega) (Int.le_refl _) ?_
  rw [show ((encStrs (name :: rest)).take ((((encStrs (name :: rest)).length : Nat) : Int)).toNat).drop (1 : Int).toNat = encStrs rest by
    rw [Int.toNat_natCast, List.take_length]; rfl]
  (apply xst;apply r0;(with_reducible assumption);apply r0)
  refine aops_wk (ds := [.sl (encStrs rest) .no]) rfl ?_
  repeat first|(apply x1;apply r0;apply r0)|(apply x2;apply r0;(with_reducible repeat first|assumption|exact q1 ‹_›|apply q3);apply r0)|(apply x9;apply r0)|apply w4|apply w6|apply w7|apply w5
  refine tget_c hw (by with_reducible repeat first|assumption|apply q3) ?_
  repeat (apply x1;apply r0;apply r0)
  refine s_alloc tk rfl rfl rfl (fun b17 hb17 => ?_); have hb := hb17; (try simp only [put_none_iff, prot_none_iff] at hb); (repeat obtain ⟨_, _, hb⟩ := hb)
  have g17 : H b17 = none := sub_none ys hb
  repeat first|(apply gO;first|(apply x1;apply r0;apply r0)|(apply x2;apply r0;(with_reducible repeat first|apply q0|apply ps);apply r0)|(apply xst;apply r0;(with_reducible repeat first|apply q0|apply ps);apply r0)|(apply x9;apply r0)|apply w4)|(apply gW;first|apply w6|apply w7)|apply w5
  refine find_c (at_few hg s.pos).small ?_
  repeat first|(apply x1;apply r0;apply r0)|(apply x9;apply r0)|apply w4|apply w6|apply w7|apply w5
  refine tget_c hw (by with_reducible repeat first|assumption|apply q3|exact n1 ‹_› ‹_›) ?_
  repeat (apply x1;apply r0;apply r0)
  refine s_alloc tk rfl rfl rfl (fun b20 hb20 => ?_); have hb := hb20; (try simp only [put_none_iff, prot_none_iff] at hb); (repeat obtain ⟨_, _, hb⟩ := hb)
  have g20 : H b20 = none := sub_none ys hb
  have lr : (encStrs rest).length = rest.length := by simp [encStrs]
  repeat first|(apply gO;first|(apply x1;apply r0;apply r0)|(apply x2;apply r0;(with_reducible repeat first|assumption|apply q0|apply ps|apply q3);apply r0)|(apply xst;apply r0;(with_reducible repeat first|assumption|apply q0|apply ps|apply q3);apply r0)|apply w4)|(apply gW;first|apply w6|apply w7|apply wb)|apply w5
  refine aw_cond rfl (fun k1 => ?_) (fun k1 => ?_)<;>first|replace k1:=not_t k1|replace k1:=not_f k1
  · have htk : T.take c follow s name rest = .inr (Found.zero, _) := (by unfold Tab.take; rw [if_pos k1])
    rw [walk_step hl, htk] at hwk
    simp only at hwk
    rw [← hwk] at hK
    repeat first|(apply gO;first|(apply x1;apply r0;apply r0)|(apply xst;apply r0;(with_reducible repeat first|assumption|apply gp|exact n2 ‹_› ‹_›);apply r0)|(apply xbd;apply r0)|apply w4)|(apply gW;first|apply w6|apply w7|apply wd)|apply w5|apply we|apply wj|apply wm
    exact rt2c (H' := H) rfl rfl (by apply q0) rfl (by rfl) rfl (by exact .pair (wk_agg rfl) (.refl _)) (by repeat first|assumption|(apply su1;assumption)) hK
  repeat first|(apply x1;apply r0;apply r0)|(apply x2;apply r0;(with_reducible repeat first|assumption|exact q1 ‹_›|apply q3|exact n1 ‹_› ‹_›|exact n2 ‹_› ‹_›);apply r0)|(apply x9;apply r0)|apply w6|apply w7
  refine can1_c hw hc (by with_reducible repeat first|assumption|apply q3|exact n1 ‹_› ‹_›) ?_
  repeat first|(apply x1;apply r0;apply r0)|apply w4|apply w5
  refine aw_cond rfl (fun k2 => ?_) (fun k2 => ?_)
  · have k2' : T.can c s.pos 1 = false := by simpa using k2
    have htk : T.take c follow s name rest = .inr (Found.zero, _) := (by unfold Tab.take; rw [if_neg (fun h => h k1), if_pos k2'])
    rw [walk_step hl, htk] at hwk
    simp only at hwk
    rw [← hwk] at hK
    repeat first|(apply gO;first|(apply x1;apply r0;apply r0)|(apply xst;apply r0;(with_reducible repeat first|assumption|apply gp|exact n2 ‹_› ‹_›);apply r0)|(apply xbd;apply r0)|apply w4)|(apply gW;first|apply w6|apply w7|apply wd)|apply w5|apply we|apply wj|apply wm
    exact rt2c (H' := H) rfl rfl (by apply q0) rfl (by rfl) rfl (by exact .pair (wk_agg rfl) (.refl _)) (by repeat first|assumption|(apply su1;assumption)) hK
  have k2' : ¬ T.can c s.pos 1 = false := by simpa using k2
  repeat first|(apply x1;apply r0;apply r0)|apply w4|apply w6|apply w7|apply w5
  refine aw_cond rfl (fun k3 => ?_) (fun k3 => ?_)<;>first|replace k3:=of_decide_eq_true k3|replace k3:=of_decide_eq_false k3
  · have htk : T.take c follow s name rest = .inl (⟨s.pos, s.links, rest⟩ : RSt) := (by unfold Tab.take; rw [if_neg (fun h => h k1), if_neg k2', if_pos (show name = dotS from k3)])
    obtain ⟨hm1, hm2⟩ := take_m hg hk8 hl htk
    rw [walk_step hl, htk] at hwk
    simp only at hwk
    repeat first|apply wc|apply w5|apply wf|apply wh|(apply wi;apply r0)
    refine nx (fun Z => ((⟨s.pos, s.links, rest⟩ : RSt), f, Z)) rfl ?_ hm1 (by repeat (first | exact Fr.sub_nil _ | refine Fr.sub_cons rfl ?_))
    exact ⟨⟨(by apply rd_eq;(focus with_reducible repeat first|assumption|apply q3|exact n1 ‹_› ‹_›);rfl), (by apply rd_eq;(focus with_reducible repeat first|assumption|apply q3|exact n1 ‹_› ‹_›);rfl), (by apply get_eq;(focus with_reducible repeat first|assumption|apply gp|exact n2 ‹_› ‹_›);rfl), (by apply get_eq;(focus with_reducible repeat first|assumption|apply gp|exact n2 ‹_› ‹_›);rfl), (by apply get_eq;(focus with_reducible repeat first|assumption|apply gp|exact n2 ‹_› ‹_›);rfl), (by apply get_eq;(focus with_reducible repeat first|assumption|apply ps|apply gp);rfl), (by repeat first|assumption|(apply su1;assumption))⟩, hm2, (by show RSt.m (⟨s.pos, s.links, rest⟩ : RSt) < f; omega), (by show f ≤ 2000; omega), hwk⟩
  repeat first|(apply x1;apply r0;apply r0)|apply w4|apply w6|apply w7|apply w5
  refine aw_cond rfl (fun k4 => ?_) (fun k4 => ?_)<;>first|replace k4:=of_decide_eq_true k4|replace k4:=of_decide_eq_false k4
  · repeat first|(apply x1;apply r0;apply r0)|(apply x2;apply r0;(with_reducible repeat first|assumption|exact q1 ‹_›|apply q3|exact n2 ‹_› ‹_›);apply r0)|(apply x9;apply r0)|apply w6|apply w7
    refine parent_c hw (by with_reducible repeat first|assumption|apply q3|exact n1 ‹_› ‹_›) ?_
    repeat first|(apply x1;apply r0;apply r0)|apply w4|apply w6|apply w7|apply w5
    refine aw_cond rfl (fun k5 => ?_) (fun k5 => ?_)<;>first|replace k5:=not_t k5|replace k5:=not_f k5
    · have htk : T.take c follow s name rest = .inl (⟨T.parent s.pos, s.links, rest⟩ : RSt) := (by unfold Tab.take; rw [if_neg (fun h => h k1), if_neg k2', if_neg (show ¬ name = dotS from k3), if_pos (show name = dotdotS from k4), if_neg k5])
      obtain ⟨hm1, hm2⟩ := take_m hg hk8 hl htk
      rw [walk_step hl, htk] at hwk
      simp only at hwk
      repeat first|(apply gO;first|(apply x1;apply r0;apply r0)|(apply xst;apply r0;(with_reducible repeat first|assumption|apply gp|exact n2 ‹_› ‹_›);apply r0)|apply w4)|(apply gW;first|apply w7|apply wc)|apply w5|apply wf|apply wh|(apply wi;apply r0)
      refine nx (fun Z => ((⟨T.parent s.pos, s.links, rest⟩ : RSt), f, Z)) rfl ?_ hm1 (by repeat (first | exact Fr.sub_nil _ | refine Fr.sub_cons rfl ?_))
      exact ⟨⟨(by apply rd_eq;(focus with_reducible repeat first|assumption|apply q3|exact n1 ‹_› ‹_›);rfl), (by apply rd_eq;(focus with_reducible repeat first|assumption|apply q3|exact n1 ‹_› ‹_›);rfl), (by apply get_eq;(focus with_reducible repeat first|assumption|apply gp|exact n2 ‹_› ‹_›);rfl), (by apply get_eq;(focus apply ps);rfl), (by apply get_eq;(focus with_reducible repeat first|assumption|apply gp|exact n2 ‹_› ‹_›);rfl), (by apply get_eq;(focus with_reducible repeat first|assumption|apply ps|apply gp);rfl), (by repeat first|assumption|(apply su1;assumption))⟩, hm2, (by show RSt.m (⟨T.parent s.pos, s.links, rest⟩ : RSt) < f; omega), (by show f ≤ 2000; omega), hwk⟩
    · have htk : T.take c follow s name rest = .inl (⟨s.pos, s.links, rest⟩ : RSt) := (by unfold Tab.take; rw [if_neg (fun h => h k1), if_neg k2', if_neg (show ¬ name = dotS from k3), if_pos (show name = dotdotS from k4), if_pos k5])
      obtain ⟨hm1, hm2⟩ := take_m hg hk8 hl htk
      rw [walk_step hl, htk] at hwk
      simp only at hwk
      repeat first|apply wa|apply wc|apply w5|apply wf|apply wh|(apply wi;apply r0)
      refine nx (fun Z => ((⟨s.pos, s.links, rest⟩ : RSt), f, Z)) rfl ?_ hm1 (by repeat (first | exact Fr.sub_nil _ | refine Fr.sub_cons rfl ?_))
      exact ⟨⟨(by apply rd_eq;(focus with_reducible repeat first|assumption|apply q3|exact n1 ‹_› ‹_›);rfl), (by apply rd_eq;(focus with_reducible repeat first|assumption|apply q3|exact n1 ‹_› ‹_›);rfl), (by apply get_eq;(focus with_reducible repeat first|assumption|apply gp|exact n2 ‹_› ‹_›);rfl), (by apply get_eq;(focus with_reducible repeat first|assumption|apply gp|exact n2 ‹_› ‹_›);rfl), (by apply get_eq;(focus with_reducible repeat first|assumption|apply gp|exact n2 ‹_› ‹_›);rfl), (by apply get_eq;(focus with_reducible repeat first|assumption|apply ps|apply gp);rfl), (by repeat first|assumption|(apply su1;assumption))⟩, hm2, (by show RSt.m (⟨s.pos, s.links, rest⟩ : RSt) < f; omega), (by show f ≤ 2000; omega), hwk⟩
  repeat first|(apply x1;apply r0;apply r0)|apply w4|apply w6|apply w7|apply w5
  refine aw_cond rfl (fun k6 => ?_) (fun k6 => ?_)<;>first|replace k6:=of_decide_eq_true k6|replace k6:=of_decide_eq_false k6
  · have htk : T.take c follow s name rest = .inr (Found.zero, _) := (by unfold Tab.take; rw [if_neg (fun h => h k1), if_neg k2', if_neg (show ¬ name = dotS from k3), if_neg (show ¬ name = dotdotS from k4), if_pos k6])
    rw [walk_step hl, htk] at hwk
    simp only at hwk
    rw [← hwk] at hK
    repeat first|(apply gO;first|(apply x1;apply r0;apply r0)|(apply xst;apply r0;(with_reducible repeat first|assumption|apply gp|exact n2 ‹_› ‹_›);apply r0)|(apply xbd;apply r0)|apply w4)|(apply gW;first|apply w6|apply w7|apply wd)|apply w5|apply we|apply wj|apply wm
    exact rt2c (H' := H) rfl rfl (by apply q0) rfl (by rfl) rfl (by exact .pair (wk_agg rfl) (.refl _)) (by repeat first|assumption|(apply su1;assumption)) hK
  repeat first|(apply x1;apply r0;apply r0)|apply w6|apply w7
  have pre : T.take c follow s name rest = if (T.at s.pos).find name = 0 ∧ 0 < rest.length then .inr (Found.zero, 2)
      else if (T.at ((T.at s.pos).find name)).kind = 3 ∧ (follow = true ∨ 0 < rest.length) then
        (if s.links = 8 then .inr (Found.zero, 40)
         else .inl ⟨if absOf (T.at ((T.at s.pos).find name)).target = true then 1 else s.pos, s.links + 1, splitOf (T.at ((T.at s.pos).find name)).target ++ rest⟩)
      else if rest.length = 0 then .inr (⟨s.pos, name, (T.at s.pos).find name⟩, 0)
      else .inl ⟨(T.at s.pos).find name, s.links, rest⟩ := by
    unfold Tab.take; rw [if_neg (fun h => h k1), if_neg k2', if_neg (show ¬ name = dotS from k3), if_neg (show ¬ name = dotdotS from k4), if_neg k6]
  refine s_gsplit rfl rfl (fun k7 => ?_) (fun k7 => ?_)<;>first|replace k7:=of_decide_eq_true k7|replace k7:=of_decide_eq_false k7
  · repeat first|(apply x1;apply r0;apply r0)|(apply x2;apply r0;(with_reducible repeat first|assumption|apply q0|apply q3);apply r0)|(apply x5;apply r0)|apply w4|apply w5
    refine aw_cond rfl (fun k8 => ?_) (fun k8 => ?_)<;>first|replace k8:=of_decide_eq_true k8|replace k8:=of_decide_eq_false k8
    · have htk : T.take c follow s name rest = .inr (Found.zero, _) := (by rw [pre, if_pos ⟨k7, by rw [lr] at k8; omega⟩])
      rw [walk_step hl, htk] at hwk
      simp only at hwk
      rw [← hwk] at hK
      repeat first|(apply gO;first|(apply x1;apply r0;apply r0)|(apply xst;apply r0;(with_reducible repeat first|assumption|apply gp|exact n2 ‹_› ‹_›);apply r0)|(apply xbd;apply r0)|apply w4)|(apply gW;first|apply w6|apply w7|apply wd)|apply w5|apply we|apply wj|apply wm
      exact rt2c (H' := H) rfl rfl (by apply q0) rfl (by rfl) rfl (by exact .pair (wk_agg rfl) (.refl _)) (by repeat first|assumption|(apply su1;assumption)) hK
    have hr0 : rest.length = 0 := by omega
    have pre2 := pre.trans (if_neg (by rintro ⟨_, h⟩; omega))
    repeat first|(apply x1;apply r0;apply r0)|(apply x2;apply r0;(apply q0);apply r0)|apply w6|apply w7
    refine s_gsplit rfl rfl (fun k9 => ?_) (fun k9 => ?_)<;>first|replace k9:=of_decide_eq_true k9|replace k9:=of_decide_eq_false k9
    · repeat first|(apply x1;apply r0;apply r0)|(apply x5;apply r0)
      refine s_gsplit rfl rfl (fun k10 => ?_) (fun k10 => ?_)
      · have pre3 := pre2.trans (if_pos ⟨k9, .inl k10⟩)
        have hf8 := (at_few hg ((T.at s.pos).find name)).2.2.1
        repeat first|(apply gO;first|(apply x1;apply r0;apply r0)|(apply x2;apply r0;(with_reducible repeat first|assumption|exact q1 ‹_›|apply q3|exact n2 ‹_› ‹_›);apply r0)|(apply x5;apply r0)|apply w4|(apply w3;apply r0;apply r0))|(apply gW;first|apply w6|apply w7|(apply w8;apply r0))|apply w5
        refine aw_cond rfl (fun k12 => ?_) (fun k12 => ?_)<;>first|replace k12:=of_decide_eq_true k12|replace k12:=of_decide_eq_false k12
        · have k12' : s.links = 8 := by omega
          have htk : T.take c follow s name rest = .inr (Found.zero, _) := (by rw [pre3, if_pos k12'])
          rw [walk_step hl, htk] at hwk
          simp only at hwk
          rw [← hwk] at hK
          repeat first|(apply gO;first|(apply x1;apply r0;apply r0)|(apply xst;apply r0;(with_reducible repeat first|assumption|apply gp|exact n2 ‹_› ‹_›);apply r0)|(apply xbd;apply r0)|apply w4)|(apply gW;first|apply w6|apply w7|apply wd)|apply w5|apply we|apply wj|apply wm
          exact rt2c (H' := H) rfl rfl (by apply q0) rfl (by rfl) rfl (by exact .pair (wk_agg rfl) (.refl _)) (by repeat first|assumption|(apply su1;assumption)) hK
        have k12' : ¬ s.links = 8 := by omega
        repeat first|(apply x1;apply r0;apply r0)|(apply x2;apply r0;(apply q0);apply r0)|apply w6|apply w7|apply wa|apply w5
        refine s_clo rfl rfl rfl (fkall rfl) ?_
        have hrl : rest.length ≤ 2000 := by unfold RSt.m at hm; rw [hl] at hm; simp only [List.length_cons] at hm; omega
        refine ahead_c (left := rest) (o := .no) (pos := s.pos) (links := s.links) (by omega) (by omega) (by omega) (by apply get_eq;(focus with_reducible repeat first|assumption|apply ps|apply gp);rfl) (by apply get_eq;(focus with_reducible repeat first|assumption|apply gp|exact n2 ‹_› ‹_›);rfl) (by apply get_eq;(focus with_reducible repeat first|assumption|apply gp|exact n2 ‹_› ‹_›);rfl) (by assumption) (by assumption) (by assumption) ?_
        have htk : T.take c follow s name rest = .inl (⟨if absOf (T.at ((T.at s.pos).find name)).target = true then 1 else s.pos, s.links + 1, splitOf (T.at ((T.at s.pos).find name)).target ++ rest⟩ : RSt) := (by rw [pre3, if_neg k12'])
        obtain ⟨hm1, hm2⟩ := take_m hg hk8 hl htk
        rw [walk_step hl, htk] at hwk
        simp only at hwk
        repeat first|apply w4|apply wc|apply w5|apply wf|apply wh|(apply wi;apply r0)
        refine nx (fun Z => ((⟨if absOf (T.at ((T.at s.pos).find name)).target = true then 1 else s.pos, s.links + 1, splitOf (T.at ((T.at s.pos).find name)).target ++ rest⟩ : RSt), f, Z)) rfl ?_ hm1 (by repeat (first | exact Fr.sub_nil _ | refine Fr.sub_cons rfl ?_))
        exact ⟨⟨(by apply rd_eq;(focus with_reducible repeat first|assumption|apply q3|exact n1 ‹_› ‹_›);rfl), (by apply rd_eq;(focus with_reducible repeat first|assumption|apply q3|exact n1 ‹_› ‹_›);rfl), (by apply get_eq;(focus with_reducible repeat first|assumption|apply gp|exact n2 ‹_› ‹_›);rfl), (by apply get_eq;(focus with_reducible repeat first|assumption|apply ps|apply gp);rfl), (by apply get_eq;(focus apply ps);rfl), (by apply get_eq;(focus with_reducible repeat first|assumption|apply ps|apply gp);rfl), (by repeat first|assumption|(apply su1;assumption))⟩, hm2, (by show RSt.m (⟨if absOf (T.at ((T.at s.pos).find name)).target = true then 1 else s.pos, s.links + 1, splitOf (T.at ((T.at s.pos).find name)).target ++ rest⟩ : RSt) < f; omega), (by show f ≤ 2000; omega), hwk⟩
      · repeat first|(apply x1;apply r0;apply r0)|(apply x2;apply r0;(with_reducible repeat first|assumption|apply q0|apply q3);apply r0)|(apply x5;apply r0)|apply w4|apply w5
        refine aw_cond rfl (fun k13 => ?_) (fun k13 => ?_)<;>first|replace k13:=of_decide_eq_true k13|replace k13:=of_decide_eq_false k13
        · have pre3 := pre2.trans (if_pos ⟨k9, .inr (by omega)⟩)
          have hf8 := (at_few hg ((T.at s.pos).find name)).2.2.1
          repeat first|(apply x1;apply r0;apply r0)|(apply x2;apply r0;(with_reducible repeat first|assumption|exact q1 ‹_›|apply q3|exact n2 ‹_› ‹_›);apply r0)|apply w4|apply w6|apply w7|apply w5
          refine aw_cond rfl (fun k12 => ?_) (fun k12 => ?_)<;>first|replace k12:=of_decide_eq_true k12|replace k12:=of_decide_eq_false k12
          · have k12' : s.links = 8 := by omega
            have htk : T.take c follow s name rest = .inr (Found.zero, _) := (by rw [pre3, if_pos k12'])
            rw [walk_step hl, htk] at hwk
            simp only at hwk
            rw [← hwk] at hK
            repeat first|(apply gO;first|(apply x1;apply r0;apply r0)|(apply xst;apply r0;(with_reducible repeat first|assumption|apply gp|exact n2 ‹_› ‹_›);apply r0)|(apply xbd;apply r0)|apply w4)|(apply gW;first|apply w6|apply w7|apply wd)|apply w5|apply we|apply wj|apply wm
            exact rt2c (H' := H) rfl rfl (by apply q0) rfl (by rfl) rfl (by exact .pair (wk_agg rfl) (.refl _)) (by repeat first|assumption|(apply su1;assumption)) hK
          have k12' : ¬ s.links = 8 := by omega
          repeat first|(apply x1;apply r0;apply r0)|(apply x2;apply r0;(apply q0);apply r0)|apply w6|apply w7|apply wa|apply w5
          refine s_clo rfl rfl rfl (fkall rfl) ?_
          have hrl : rest.length ≤ 2000 := by unfold RSt.m at hm; rw [hl] at hm; simp only [List.length_cons] at hm; omega
          refine ahead_c (left := rest) (o := .no) (pos := s.pos) (links := s.links) (by omega) (by omega) (by omega) (by apply get_eq;(focus with_reducible repeat first|assumption|apply ps|apply gp);rfl) (by apply get_eq;(focus with_reducible repeat first|assumption|apply gp|exact n2 ‹_› ‹_›);rfl) (by apply get_eq;(focus with_reducible repeat first|assumption|apply gp|exact n2 ‹_› ‹_›);rfl) (by assumption) (by assumption) (by assumption) ?_
          have htk : T.take c follow s name rest = .inl (⟨if absOf (T.at ((T.at s.pos).find name)).target = true then 1 else s.pos, s.links + 1, splitOf (T.at ((T.at s.pos).find name)).target ++ rest⟩ : RSt) := (by rw [pre3, if_neg k12'])
          obtain ⟨hm1, hm2⟩ := take_m hg hk8 hl htk
          rw [walk_step hl, htk] at hwk
          simp only at hwk
          repeat first|apply w4|apply wc|apply w5|apply wf|apply wh|(apply wi;apply r0)
          refine nx (fun Z => ((⟨if absOf (T.at ((T.at s.pos).find name)).target = true then 1 else s.pos, s.links + 1, splitOf (T.at ((T.at s.pos).find name)).target ++ rest⟩ : RSt), f, Z)) rfl ?_ hm1 (by repeat (first | exact Fr.sub_nil _ | refine Fr.sub_cons rfl ?_))
          exact ⟨⟨(by apply rd_eq;(focus with_reducible repeat first|assumption|apply q3|exact n1 ‹_› ‹_›);rfl), (by apply rd_eq;(focus with_reducible repeat first|assumption|apply q3|exact n1 ‹_› ‹_›);rfl), (by apply get_eq;(focus with_reducible repeat first|assumption|apply gp|exact n2 ‹_› ‹_›);rfl), (by apply get_eq;(focus with_reducible repeat first|assumption|apply ps|apply gp);rfl), (by apply get_eq;(focus apply ps);rfl), (by apply get_eq;(focus with_reducible repeat first|assumption|apply ps|apply gp);rfl), (by repeat first|assumption|(apply su1;assumption))⟩, hm2, (by show RSt.m (⟨if absOf (T.at ((T.at s.pos).find name)).target = true then 1 else s.pos, s.links + 1, splitOf (T.at ((T.at s.pos).find name)).target ++ rest⟩ : RSt) < f; omega), (by show f ≤ 2000; omega), hwk⟩
        · have pre3 := pre2.trans (if_neg (by rintro ⟨_, h | h⟩; exact absurd h (by rw [k10]; decide); omega))
          repeat first|(apply x1;apply r0;apply r0)|(apply x2;apply r0;(with_reducible repeat first|assumption|apply q0|apply q3);apply r0)|apply w4|apply w6|apply w7|apply w5
          refine aw_cond rfl (fun k11 => ?_) (fun k11 => ?_)<;>first|replace k11:=of_decide_eq_true k11|replace k11:=of_decide_eq_false k11
          · have k11' : rest.length = 0 := by omega
            have htk : T.take c follow s name rest = .inr (⟨s.pos, name, (T.at s.pos).find name⟩, 0) := by rw [pre3, if_pos k11']
            rw [walk_step hl, htk] at hwk
            simp only at hwk
            rw [← hwk] at hK
            repeat first|(apply gO;first|(apply x1;apply r0;apply r0)|(apply x2;apply r0;(with_reducible repeat first|assumption|exact q1 ‹_›|apply q3|apply gp|exact n2 ‹_› ‹_›);apply r0)|(apply xst;apply r0;(with_reducible repeat first|assumption|exact q1 ‹_›|apply q3|apply gp|exact n2 ‹_› ‹_›);apply r0)|(apply xbd;apply r0)|apply w4)|(apply gW;first|apply w6|apply w7|apply wd)|apply w5|apply we|apply wj|apply wm
            exact rt2c (H' := H) rfl rfl (by apply q0) rfl (by rfl) rfl (by exact .pair (wk_agg rfl) (.refl _)) (by repeat first|assumption|(apply su1;assumption)) hK
          · have k11' : ¬ rest.length = 0 := by omega
            have htk : T.take c follow s name rest = .inl (⟨(T.at s.pos).find name, s.links, rest⟩ : RSt) := (by rw [pre3, if_neg k11'])
            obtain ⟨hm1, hm2⟩ := take_m hg hk8 hl htk
            rw [walk_step hl, htk] at hwk
            simp only at hwk
            repeat first|(apply x1;apply r0;apply r0)|(apply xst;apply r0;(with_reducible repeat first|assumption|apply gp|exact n2 ‹_› ‹_›);apply r0)|apply w4|apply w7|apply wa|apply w5|apply wg
            refine nx (fun Z => ((⟨(T.at s.pos).find name, s.links, rest⟩ : RSt), f, Z)) rfl ?_ hm1 (by repeat (first | exact Fr.sub_nil _ | refine Fr.sub_cons rfl ?_))
            exact ⟨⟨(by apply rd_eq;(focus with_reducible repeat first|assumption|apply q3|exact n1 ‹_› ‹_›);rfl), (by apply rd_eq;(focus with_reducible repeat first|assumption|apply q3|exact n1 ‹_› ‹_›);rfl), (by apply get_eq;(focus with_reducible repeat first|assumption|apply gp|exact n2 ‹_› ‹_›);rfl), (by apply get_eq;(focus apply ps);rfl), (by apply get_eq;(focus with_reducible repeat first|assumption|apply gp|exact n2 ‹_› ‹_›);rfl), (by apply get_eq;(focus with_reducible repeat first|assumption|apply ps|apply gp);rfl), (by repeat first|assumption|(apply su1;assumption))⟩, hm2, (by show RSt.m (⟨(T.at s.pos).find name, s.links, rest⟩ : RSt) < f; omega), (by show f ≤ 2000; omega), hwk⟩
    · have pre3 := pre2.trans (if_neg (by rintro ⟨h, _⟩; exact k9 h))
      repeat first|(apply gO;first|(apply x1;apply r0;apply r0)|(apply x2;apply r0;(with_reducible repeat first|assumption|apply q0|apply q3);apply r0)|apply w4|(apply w3;apply r0;apply r0))|(apply gW;first|apply w6|apply w7|(apply w9;apply r0))|apply w5
      refine aw_cond rfl (fun k11 => ?_) (fun k11 => ?_)<;>first|replace k11:=of_decide_eq_true k11|replace k11:=of_decide_eq_false k11
      · have k11' : rest.length = 0 := by omega
        have htk : T.take c follow s name rest = .inr (⟨s.pos, name, (T.at s.pos).find name⟩, 0) := by rw [pre3, if_pos k11']
        rw [walk_step hl, htk] at hwk
        simp only at hwk
        rw [← hwk] at hK
        repeat first|(apply gO;first|(apply x1;apply r0;apply r0)|(apply x2;apply r0;(with_reducible repeat first|assumption|exact q1 ‹_›|apply q3|apply gp|exact n2 ‹_› ‹_›);apply r0)|(apply xst;apply r0;(with_reducible repeat first|assumption|exact q1 ‹_›|apply q3|apply gp|exact n2 ‹_› ‹_›);apply r0)|(apply xbd;apply r0)|apply w4)|(apply gW;first|apply w6|apply w7|apply wd)|apply w5|apply we|apply wj|apply wm
        exact rt2c (H' := H) rfl rfl (by apply q0) rfl (by rfl) rfl (by exact .pair (wk_agg rfl) (.refl _)) (by repeat first|assumption|(apply su1;assumption)) hK
      · have k11' : ¬ rest.length = 0 := by omega
        have htk : T.take c follow s name rest = .inl (⟨(T.at s.pos).find name, s.links, rest⟩ : RSt) := (by rw [pre3, if_neg k11'])
        obtain ⟨hm1, hm2⟩ := take_m hg hk8 hl htk
        rw [walk_step hl, htk] at hwk
        simp only at hwk
        repeat first|(apply x1;apply r0;apply r0)|(apply xst;apply r0;(with_reducible repeat first|assumption|apply gp|exact n2 ‹_› ‹_›);apply r0)|apply w4|apply w7|apply wa|apply w5|apply wg
        refine nx (fun Z => ((⟨(T.at s.pos).find name, s.links, rest⟩ : RSt), f, Z)) rfl ?_ hm1 (by repeat (first | exact Fr.sub_nil _ | refine Fr.sub_cons rfl ?_))
        exact ⟨⟨(by apply rd_eq;(focus with_reducible repeat first|assumption|apply q3|exact n1 ‹_› ‹_›);rfl), (by apply rd_eq;(focus with_reducible repeat first|assumption|apply q3|exact n1 ‹_› ‹_›);rfl), (by apply get_eq;(focus with_reducible repeat first|assumption|apply gp|exact n2 ‹_› ‹_›);rfl), (by apply get_eq;(focus apply ps);rfl), (by apply get_eq;(focus with_reducible repeat first|assumption|apply gp|exact n2 ‹_› ‹_›);rfl), (by apply get_eq;(focus with_reducible repeat first|assumption|apply ps|apply gp);rfl), (by repeat first|assumption|(apply su1;assumption))⟩, hm2, (by show RSt.m (⟨(T.at s.pos).find name, s.links, rest⟩ : RSt) < f; omega), (by show f ≤ 2000; omega), hwk⟩
  · have pre2 := pre.trans (if_neg (by rintro ⟨h, _⟩; exact k7 h))
    repeat first|(apply gO;first|(apply x1;apply r0;apply r0)|(apply x2;apply r0;(apply q0);apply r0)|apply w4|(apply w3;apply r0;apply r0))|(apply gW;first|apply w6|apply w7|(apply w9;apply r0))|apply w5
    refine s_gsplit rfl rfl (fun k9 => ?_) (fun k9 => ?_)<;>first|replace k9:=of_decide_eq_true k9|replace k9:=of_decide_eq_false k9
    · repeat first|(apply x1;apply r0;apply r0)|(apply x5;apply r0)
      refine s_gsplit rfl rfl (fun k10 => ?_) (fun k10 => ?_)
      · have pre3 := pre2.trans (if_pos ⟨k9, .inl k10⟩)
        have hf8 := (at_few hg ((T.at s.pos).find name)).2.2.1
        repeat first|(apply gO;first|(apply x1;apply r0;apply r0)|(apply x2;apply r0;(with_reducible repeat first|assumption|exact q1 ‹_›|apply q3|exact n2 ‹_› ‹_›);apply r0)|(apply x5;apply r0)|apply w4|(apply w3;apply r0;apply r0))|(apply gW;first|apply w6|apply w7|(apply w8;apply r0))|apply w5
        refine aw_cond rfl (fun k12 => ?_) (fun k12 => ?_)<;>first|replace k12:=of_decide_eq_true k12|replace k12:=of_decide_eq_false k12
        · have k12' : s.links = 8 := by omega
          have htk : T.take c follow s name rest = .inr (Found.zero, _) := (by rw [pre3, if_pos k12'])
          rw [walk_step hl, htk] at hwk
          simp only at hwk
          rw [← hwk] at hK
          repeat first|(apply gO;first|(apply x1;apply r0;apply r0)|(apply xst;apply r0;(with_reducible repeat first|assumption|apply gp|exact n2 ‹_› ‹_›);apply r0)|(apply xbd;apply r0)|apply w4)|(apply gW;first|apply w6|apply w7|apply wd)|apply w5|apply we|apply wj|apply wm
          exact rt2c (H' := H) rfl rfl (by apply q0) rfl (by rfl) rfl (by exact .pair (wk_agg rfl) (.refl _)) (by repeat first|assumption|(apply su1;assumption)) hK
        have k12' : ¬ s.links = 8 := by omega
        repeat first|(apply x1;apply r0;apply r0)|(apply x2;apply r0;(apply q0);apply r0)|apply w6|apply w7|apply wa|apply w5
        refine s_clo rfl rfl rfl (fkall rfl) ?_
        have hrl : rest.length ≤ 2000 := by unfold RSt.m at hm; rw [hl] at hm; simp only [List.length_cons] at hm; omega
        refine ahead_c (left := rest) (o := .no) (pos := s.pos) (links := s.links) (by omega) (by omega) (by omega) (by apply get_eq;(focus with_reducible repeat first|assumption|apply ps|apply gp);rfl) (by apply get_eq;(focus with_reducible repeat first|assumption|apply gp|exact n2 ‹_› ‹_›);rfl) (by apply get_eq;(focus with_reducible repeat first|assumption|apply gp|exact n2 ‹_› ‹_›);rfl) (by assumption) (by assumption) (by assumption) ?_
        have htk : T.take c follow s name rest = .inl (⟨if absOf (T.at ((T.at s.pos).find name)).target = true then 1 else s.pos, s.links + 1, splitOf (T.at ((T.at s.pos).find name)).target ++ rest⟩ : RSt) := (by rw [pre3, if_neg k12'])
        obtain ⟨hm1, hm2⟩ := take_m hg hk8 hl htk
        rw [walk_step hl, htk] at hwk
        simp only at hwk
        repeat first|apply w4|apply wc|apply w5|apply wf|apply wh|(apply wi;apply r0)
        refine nx (fun Z => ((⟨if absOf (T.at ((T.at s.pos).find name)).target = true then 1 else s.pos, s.links + 1, splitOf (T.at ((T.at s.pos).find name)).target ++ rest⟩ : RSt), f, Z)) rfl ?_ hm1 (by repeat (first | exact Fr.sub_nil _ | refine Fr.sub_cons rfl ?_))
        exact ⟨⟨(by apply rd_eq;(focus with_reducible repeat first|assumption|apply q3|exact n1 ‹_› ‹_›);rfl), (by apply rd_eq;(focus with_reducible repeat first|assumption|apply q3|exact n1 ‹_› ‹_›);rfl), (by apply get_eq;(focus with_reducible repeat first|assumption|apply gp|exact n2 ‹_› ‹_›);rfl), (by apply get_eq;(focus with_reducible repeat first|assumption|apply ps|apply gp);rfl), (by apply get_eq;(focus apply ps);rfl), (by apply get_eq;(focus with_reducible repeat first|assumption|apply ps|apply gp);rfl), (by repeat first|assumption|(apply su1;assumption))⟩, hm2, (by show RSt.m (⟨if absOf (T.at ((T.at s.pos).find name)).target = true then 1 else s.pos, s.links + 1, splitOf (T.at ((T.at s.pos).find name)).target ++ rest⟩ : RSt) < f; omega), (by show f ≤ 2000; omega), hwk⟩
      · repeat first|(apply x1;apply r0;apply r0)|(apply x2;apply r0;(with_reducible repeat first|assumption|apply q0|apply q3);apply r0)|(apply x5;apply r0)|apply w4|apply w5
        refine aw_cond rfl (fun k13 => ?_) (fun k13 => ?_)<;>first|replace k13:=of_decide_eq_true k13|replace k13:=of_decide_eq_false k13
        · have pre3 := pre2.trans (if_pos ⟨k9, .inr (by omega)⟩)
          have hf8 := (at_few hg ((T.at s.pos).find name)).2.2.1
          repeat first|(apply x1;apply r0;apply r0)|(apply x2;apply r0;(with_reducible repeat first|assumption|exact q1 ‹_›|apply q3|exact n2 ‹_› ‹_›);apply r0)|apply w4|apply w6|apply w7|apply w5
          refine aw_cond rfl (fun k12 => ?_) (fun k12 => ?_)<;>first|replace k12:=of_decide_eq_true k12|replace k12:=of_decide_eq_false k12
          · have k12' : s.links = 8 := by omega
            have htk : T.take c follow s name rest = .inr (Found.zero, _) := (by rw [pre3, if_pos k12'])
            rw [walk_step hl, htk] at hwk
            simp only at hwk
            rw [← hwk] at hK
            repeat first|(apply gO;first|(apply x1;apply r0;apply r0)|(apply xst;apply r0;(with_reducible repeat first|assumption|apply gp|exact n2 ‹_› ‹_›);apply r0)|(apply xbd;apply r0)|apply w4)|(apply gW;first|apply w6|apply w7|apply wd)|apply w5|apply we|apply wj|apply wm
            exact rt2c (H' := H) rfl rfl (by apply q0) rfl (by rfl) rfl (by exact .pair (wk_agg rfl) (.refl _)) (by repeat first|assumption|(apply su1;assumption)) hK
          have k12' : ¬ s.links = 8 := by omega
          repeat first|(apply x1;apply r0;apply r0)|(apply x2;apply r0;(apply q0);apply r0)|apply w6|apply w7|apply wa|apply w5
          refine s_clo rfl rfl rfl (fkall rfl) ?_
          have hrl : rest.length ≤ 2000 := by unfold RSt.m at hm; rw [hl] at hm; simp only [List.length_cons] at hm; omega
          refine ahead_c (left := rest) (o := .no) (pos := s.pos) (links := s.links) (by omega) (by omega) (by omega) (by apply get_eq;(focus with_reducible repeat first|assumption|apply ps|apply gp);rfl) (by apply get_eq;(focus with_reducible repeat first|assumption|apply gp|exact n2 ‹_› ‹_›);rfl) (by apply get_eq;(focus with_reducible repeat first|assumption|apply gp|exact n2 ‹_› ‹_›);rfl) (by assumption) (by assumption) (by assumption) ?_
          have htk : T.take c follow s name rest = .inl (⟨if absOf (T.at ((T.at s.pos).find name)).target = true then 1 else s.pos, s.links + 1, splitOf (T.at ((T.at s.pos).find name)).target ++ rest⟩ : RSt) := (by rw [pre3, if_neg k12'])
          obtain ⟨hm1, hm2⟩ := take_m hg hk8 hl htk
          rw [walk_step hl, htk] at hwk
          simp only at hwk
          repeat first|apply w4|apply wc|apply w5|apply wf|apply wh|(apply wi;apply r0)
          refine nx (fun Z => ((⟨if absOf (T.at ((T.at s.pos).find name)).target = true then 1 else s.pos, s.links + 1, splitOf (T.at ((T.at s.pos).find name)).target ++ rest⟩ : RSt), f, Z)) rfl ?_ hm1 (by repeat (first | exact Fr.sub_nil _ | refine Fr.sub_cons rfl ?_))
          exact ⟨⟨(by apply rd_eq;(focus with_reducible repeat first|assumption|apply q3|exact n1 ‹_› ‹_›);rfl), (by apply rd_eq;(focus with_reducible repeat first|assumption|apply q3|exact n1 ‹_› ‹_›);rfl), (by apply get_eq;(focus with_reducible repeat first|assumption|apply gp|exact n2 ‹_› ‹_›);rfl), (by apply get_eq;(focus with_reducible repeat first|assumption|apply ps|apply gp);rfl), (by apply get_eq;(focus apply ps);rfl), (by apply get_eq;(focus with_reducible repeat first|assumption|apply ps|apply gp);rfl), (by repeat first|assumption|(apply su1;assumption))⟩, hm2, (by show RSt.m (⟨if absOf (T.at ((T.at s.pos).find name)).target = true then 1 else s.pos, s.links + 1, splitOf (T.at ((T.at s.pos).find name)).target ++ rest⟩ : RSt) < f; omega), (by show f ≤ 2000; omega), hwk⟩
        · have pre3 := pre2.trans (if_neg (by rintro ⟨_, h | h⟩; exact absurd h (by rw [k10]; decide); omega))
          repeat first|(apply x1;apply r0;apply r0)|(apply x2;apply r0;(with_reducible repeat first|assumption|apply q0|apply q3);apply r0)|apply w4|apply w6|apply w7|apply w5
          refine aw_cond rfl (fun k11 => ?_) (fun k11 => ?_)<;>first|replace k11:=of_decide_eq_true k11|replace k11:=of_decide_eq_false k11
          · have k11' : rest.length = 0 := by omega
            have htk : T.take c follow s name rest = .inr (⟨s.pos, name, (T.at s.pos).find name⟩, 0) := by rw [pre3, if_pos k11']
            rw [walk_step hl, htk] at hwk
            simp only at hwk
            rw [← hwk] at hK
            repeat first|(apply gO;first|(apply x1;apply r0;apply r0)|(apply x2;apply r0;(with_reducible repeat first|assumption|exact q1 ‹_›|apply q3|apply gp|exact n2 ‹_› ‹_›);apply r0)|(apply xst;apply r0;(with_reducible repeat first|assumption|exact q1 ‹_›|apply q3|apply gp|exact n2 ‹_› ‹_›);apply r0)|(apply xbd;apply r0)|apply w4)|(apply gW;first|apply w6|apply w7|apply wd)|apply w5|apply we|apply wj|apply wm
            exact rt2c (H' := H) rfl rfl (by apply q0) rfl (by rfl) rfl (by exact .pair (wk_agg rfl) (.refl _)) (by repeat first|assumption|(apply su1;assumption)) hK
          · have k11' : ¬ rest.length = 0 := by omega
            have htk : T.take c follow s name rest = .inl (⟨(T.at s.pos).find name, s.links, rest⟩ : RSt) := (by rw [pre3, if_neg k11'])
            obtain ⟨hm1, hm2⟩ := take_m hg hk8 hl htk
            rw [walk_step hl, htk] at hwk
            simp only at hwk
            repeat first|(apply x1;apply r0;apply r0)|(apply xst;apply r0;(with_reducible repeat first|assumption|apply gp|exact n2 ‹_› ‹_›);apply r0)|apply w4|apply w7|apply wa|apply w5|apply wg
            refine nx (fun Z => ((⟨(T.at s.pos).find name, s.links, rest⟩ : RSt), f, Z)) rfl ?_ hm1 (by repeat (first | exact Fr.sub_nil _ | refine Fr.sub_cons rfl ?_))
            exact ⟨⟨(by apply rd_eq;(focus with_reducible repeat first|assumption|apply q3|exact n1 ‹_› ‹_›);rfl), (by apply rd_eq;(focus with_reducible repeat first|assumption|apply q3|exact n1 ‹_› ‹_›);rfl), (by apply get_eq;(focus with_reducible repeat first|assumption|apply gp|exact n2 ‹_› ‹_›);rfl), (by apply get_eq;(focus apply ps);rfl), (by apply get_eq;(focus with_reducible repeat first|assumption|apply gp|exact n2 ‹_› ‹_›);rfl), (by apply get_eq;(focus with_reducible repeat first|assumption|apply ps|apply gp);rfl), (by repeat first|assumption|(apply su1;assumption))⟩, hm2, (by show RSt.m (⟨(T.at s.pos).find name, s.links, rest⟩ : RSt) < f; omega), (by show f ≤ 2000; omega), hwk⟩
    · have pre3 := pre2.trans (if_neg (by rintro ⟨h, _⟩; exact k9 h))
      repeat first|(apply gO;first|(apply x1;apply r0;apply r0)|(apply x2;apply r0;(with_reducible repeat first|assumption|apply q0|apply q3);apply r0)|apply w4|(apply w3;apply r0;apply r0))|(apply gW;first|apply w6|apply w7|(apply w9;apply r0))|apply w5
      refine aw_cond rfl (fun k11 => ?_) (fun k11 => ?_)<;>first|replace k11:=of_decide_eq_true k11|replace k11:=of_decide_eq_false k11
      · have k11' : rest.length = 0 := by omega
        have htk : T.take c follow s name rest = .inr (⟨s.pos, name, (T.at s.pos).find name⟩, 0) := by rw [pre3, if_pos k11']
        rw [walk_step hl, htk] at hwk
        simp only at hwk
        rw [← hwk] at hK
        repeat first|(apply gO;first|(apply x1;apply r0;apply r0)|(apply x2;apply r0;(with_reducible repeat first|assumption|exact q1 ‹_›|apply q3|apply gp|exact n2 ‹_› ‹_›);apply r0)|(apply xst;apply r0;(with_reducible repeat first|assumption|exact q1 ‹_›|apply q3|apply gp|exact n2 ‹_› ‹_›);apply r0)|(apply xbd;apply r0)|apply w4)|(apply gW;first|apply w6|apply w7|apply wd)|apply w5|apply we|apply wj|apply wm
        exact rt2c (H' := H) rfl rfl (by apply q0) rfl (by rfl) rfl (by exact .pair (wk_agg rfl) (.refl _)) (by repeat first|assumption|(apply su1;assumption)) hK
      · have k11' : ¬ rest.length = 0 := by omega
        have htk : T.take c follow s name rest = .inl (⟨(T.at s.pos).find name, s.links, rest⟩ : RSt) := (by rw [pre3, if_neg k11'])
        obtain ⟨hm1, hm2⟩ := take_m hg hk8 hl htk
        rw [walk_step hl, htk] at hwk
        simp only at hwk
        repeat first|(apply x1;apply r0;apply r0)|(apply xst;apply r0;(with_reducible repeat first|assumption|apply gp|exact n2 ‹_› ‹_›);apply r0)|apply w4|apply w7|apply wa|apply w5|apply wg
        refine nx (fun Z => ((⟨(T.at s.pos).find name, s.links, rest⟩ : RSt), f, Z)) rfl ?_ hm1 (by repeat (first | exact Fr.sub_nil _ | refine Fr.sub_cons rfl ?_))
        exact ⟨⟨(by apply rd_eq;(focus with_reducible repeat first|assumption|apply q3|exact n1 ‹_› ‹_›);rfl), (by apply rd_eq;(focus with_reducible repeat first|assumption|apply q3|exact n1 ‹_› ‹_›);rfl), (by apply get_eq;(focus with_reducible repeat first|assumption|apply gp|exact n2 ‹_› ‹_›);rfl), (by apply get_eq;(focus apply ps);rfl), (by apply get_eq;(focus with_reducible repeat first|assumption|apply gp|exact n2 ‹_› ‹_›);rfl), (by apply get_eq;(focus with_reducible repeat first|assumption|apply ps|apply gp);rfl), (by repeat first|assumption|(apply su1;assumption))⟩, hm2, (by show RSt.m (⟨(T.at s.pos).find name, s.links, rest⟩ : RSt) < f; omega), (by show f ≤ 2000; omega), hwk⟩
end Abs
end Go.Proofs.Ytpifnlodilcgkaa
