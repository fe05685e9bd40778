import Derived.Test.YtpifnlodilcgkaaV1
import Derived.Test.YtpifnlodilcgkaaT1
import Derived.Test.YtpifnlodilcgkaaL1
import Derived.Test.YtpifnlodilcgkaaX3
import Derived.Test.YtpifnlodilcgkaaM2
set_option linter.unusedVariables false
namespace Go.Proofs.Ytpifnlodilcgkaa
namespace Abs
set_option linter.unusedSimpArgs false
set_option maxRecDepth 10000
set_option maxHeartbeats 2000000
attribute [local irreducible] AOps AW AP ACalls thenQ inBlk noGoto

/-! ### package build: what is told -/
structure Raw where
  kind : Int
  mode : Int
  uid : Int
  gid : Int
  parent : Int
  name : ByteArray
  data : ByteArray
  target : ByteArray
  node : Int
def encRaw (r : Raw) : List AVal := [.i r.kind, .i r.mode, .i r.uid, .i r.gid, .i r.parent, .s r.name, .sl (encBytes r.data) .no, .s r.target, .i r.node]
def encRaws (l : List Raw) : List (List AVal) := l.map encRaw
theorem raws_len (l : List Raw) : (encRaws l).length = l.length := by simp [encRaws]
theorem raws_uni (l : List Raw) : Uni 9 (encRaws l) := fun x hx => by
  obtain ⟨e, _, rfl⟩ := List.mem_map.1 hx; rfl
def Raw.made (r : Raw) : Node := ⟨r.kind, r.mode, r.uid, r.gid, r.data, [], r.target⟩
def Raw.few (r : Raw) : Prop := r.name.size ≤ 40 ∧ r.data.size ≤ 100 ∧ r.target.size ≤ 100
theorem Raw.few.made {r : Raw} (h : r.few) : r.made.few := ⟨Nat.zero_le _, h.2.1, h.2.2, fun e he => by cases he⟩
theorem made_c {r : Raw} {H : AHeap} {K : AVal → AHeap → Prop} (hK : K (.agg (encNode r.made)) H) : ACalls Try.prog 50 [.agg (encRaw r)] H K := by
  refine acalls_body Try.func50 rfl rfl rfl ?_
  repeat first|apply w6|apply w7
  refine s_box rfl rfl rfl (fun b1 hb1 => ?_); have hb := hb1; (try simp only [put_none_iff, prot_none_iff] at hb); (repeat obtain ⟨_, _, hb⟩ := hb)
  skip
  refine s_alloc tk rfl rfl rfl (fun b2 hb2 => ?_); have hb := hb2; (try simp only [put_none_iff, prot_none_iff] at hb); (repeat obtain ⟨_, _, hb⟩ := hb)
  repeat first|(apply gO;first|(apply x1;apply r0;apply r0)|(apply x2;apply r0;(with_reducible repeat first|assumption|apply q0|apply ps|apply q3);apply r0)|(apply xst;apply r0;(with_reducible repeat first|assumption|apply q0|apply ps|apply q3);apply r0)|(apply xbd;apply r0)|apply w4)|(apply gW;first|apply w6|apply w7|apply wd)|apply w5
  exact rt1c (H' := H) rfl rfl (by apply q0) rfl (by rfl) (wk_agg (l' := encNode r.made) rfl) (by repeat first|exact s0|(apply su1;assumption)) hK

theorem put_id' {H : AHeap} {t : Nat} {o : HObj} (h : H t = some o) : H.put t o = H := by
  funext x
  simp only [AHeap.put]
  split
  · rename_i e; rw [e, h]
  · rfl
/-- The first number that is free, less 1. -/
def Tab.free (T : Tab) : Option Nat := (List.range T.room.toNat).find? fun k => !T.has ((k : Int) + 1)
def Tab.add (T : Tab) (n : Node) : Tab × Int × Int := if nodeOk n = true then (match T.free with | some k => (T.put k n, (k : Int) + 1, 0) | none => (T, 0, 28)) else (T, 0, 22)
def Tab.putE (T : Tab) (i : Int) (n : Node) : Tab × Int := if T.has i = true then (if nodeOk n = true then (T.put (i - 1).toNat n, 0) else (T, 22)) else (T, 2)
theorem free_some {T : Tab} {k : Nat} (hk : (k : Int) < T.room) (hall : ∀ j : Nat, j < k → T.has (j + 1) = true) (h : T.has (k + 1) = false) : T.free = some k := by
  unfold Tab.free
  rw [List.find?_range_eq_some]
  exact ⟨by rw [h]; rfl, by rw [List.mem_range]; omega, fun j hj => by rw [hall j hj]; rfl⟩
theorem free_none {T : Tab} (hall : ∀ j : Nat, (j : Int) < T.room → T.has (j + 1) = true) : T.free = none := by
  unfold Tab.free
  rw [List.find?_eq_none]
  intro k hk
  rw [List.mem_range] at hk
  rw [hall k (by omega)]; decide
theorem add2_c {t : Nat} {T : Tab} (hw : T.wf) {n : Node} (hn : n.small) {H : AHeap} (hT : H t = some (.cells (encTab T))) {K : AVal → AHeap → Prop}
    (hK : K (.tup [.i (T.add n).2.1, .i (T.add n).2.2]) (H.put t (.cells (encTab (T.add n).1)))) : ACalls Try.prog 30 [.ptr t 0, .agg (encNode n)] H K := by
  unfold Tab.add at hK
  refine add_c hw hn hT (fun h => ?_) (fun k h h1 h2 h3 => ?_) (fun h h1 => ?_)
  · rw [if_neg (by rw [h]; decide), put_id' hT] at hK; exact hK
  · rw [if_pos h, free_some h1 h2 h3] at hK; exact hK
  · rw [if_pos h, free_none h1] at hK; simp only at hK; rw [put_id' hT] at hK; exact hK
theorem put2_c {t : Nat} {T : Tab} (hw : T.wf) {i : Int} {n : Node} (hn : n.small) {H : AHeap} (hT : H t = some (.cells (encTab T))) {K : AVal → AHeap → Prop}
    (hK : K (.i (T.putE i n).2) (H.put t (.cells (encTab (T.putE i n).1)))) : ACalls Try.prog 84 [.ptr t 0, .i i, .agg (encNode n)] H K := by
  unfold Tab.putE at hK
  refine put_c hw hn hT ?_
  split
  · rename_i h
    rw [if_pos h] at hK
    split
    · rename_i h2
      rw [if_pos h2] at hK; exact hK
    · rename_i h2
      rw [if_neg h2, put_id' hT] at hK; exact hK
  · rename_i h
    rw [if_neg h, put_id' hT] at hK; exact hK
def Raw.told (r : Raw) (T : Tab) : Tab × Int × Int :=
  if ¬ r.kind = 4 then T.add r.made else if T.has r.node = true then (if (T.get r.node).kind = 2 then (T, 0, 1) else (T, r.node, 0)) else (T, 0, 2)
theorem told_c {r : Raw} (hr : r.few) {t : Nat} {T : Tab} (hw : T.wf) {H : AHeap} (hT : H t = some (.cells (encTab T))) {K : AVal → AHeap → Prop}
    (hK : K (.tup [.i (r.told T).2.1, .i (r.told T).2.2]) (H.put t (.cells (encTab (r.told T).1)))) : ACalls Try.prog 86 [.agg (encRaw r), .ptr t 0] H K := by
  refine acalls_body Try.func86 rfl rfl rfl ?_
  unfold Raw.told at hK
  repeat first|apply w6|apply w7
  refine s_box rfl rfl rfl (fun b2 hb2 => ?_); have hb := hb2; (try simp only [put_none_iff, prot_none_iff] at hb); (repeat obtain ⟨_, _, hb⟩ := hb)
  repeat first|(apply x1;apply r0;apply r0)|(apply x2;apply r0;(apply q0);apply r0)|apply w4|apply w6|apply w7|apply w5
  refine aw_cond rfl (fun c => ?_) (fun c => ?_)<;>first|replace c:=not_t c|replace c:=not_f c
  · rw [if_pos c] at hK
    repeat first|(apply x1;apply r0;apply r0)|(apply x2;apply r0;(apply q0);apply r0)|(apply x9;apply r0)|apply w6|apply w7
    refine made_c ?_
    repeat (apply x9;apply r0)
    refine add2_c hw hr.made.small (by with_reducible repeat first|assumption|apply gp|exact n2 ‹_› ‹_›) ?_
    repeat first|(apply x1;apply r0;apply r0)|apply w4|apply wd|apply w5|apply we
    exact rt2 rfl rfl rfl (.refl _) (by repeat first|exact s1|(apply su2;assumption)|apply put_sub') hK
  rw [if_neg (fun h => h c)] at hK
  repeat first|(apply x1;apply r0;apply r0)|(apply x2;apply r0;(apply q0);apply r0)|(apply x9;apply r0)|apply w6|apply w7|apply wa|apply w5
  refine get_c hw (by with_reducible repeat first|exact q1 ‹_›|apply q3|exact n2 ‹_› ‹_›) ?_
  repeat (apply x1;apply r0;apply r0)
  refine s_alloc tk rfl rfl rfl (fun b6 hb6 => ?_); have hb := hb6; (try simp only [put_none_iff, prot_none_iff] at hb); (repeat obtain ⟨_, _, hb⟩ := hb)
  (apply xst;apply r0;(apply ps);apply r0)
  rw [put_put]
  cases hh : T.has r.node with
  | false =>
    rw [hh, if_neg (by decide), put_id' hT] at hK
    repeat first|(apply gO;first|(apply x1;apply r0;apply r0)|apply w4)|(apply gW;first|apply w6|apply w7|(apply w8;apply r0)|apply wd|apply wb)|apply w5|apply we|apply wj
    exact rt2 (H' := H) rfl rfl rfl (.refl _) (by repeat first|exact s0|(apply su1;assumption)) hK
  | true =>
    rw [hh, if_pos rfl] at hK
    rw [if_pos rfl]
    repeat first|(apply gO;first|(apply x1;apply r0;apply r0)|(apply x2;apply r0;(apply q0);apply r0)|apply w4)|(apply gW;first|apply w6|apply w7|(apply w9;apply r0)|apply wb)|apply w5
    refine aw_cond rfl (fun d => ?_) (fun d => ?_)<;>first|replace d:=of_decide_eq_true d|replace d:=of_decide_eq_false d
    · rw [if_pos d, put_id' hT] at hK
      repeat first|(apply gO;first|(apply x1;apply r0;apply r0)|apply w4)|(apply gW;first|apply w6|apply w7|apply wd)|apply w5|apply we|apply wj
      exact rt2 (H' := H) rfl rfl rfl (.refl _) (by repeat first|exact s0|(apply su1;assumption)) hK
    · rw [if_neg d, put_id' hT] at hK
      repeat first|(apply gO;first|(apply x1;apply r0;apply r0)|(apply x2;apply r0;(with_reducible repeat first|assumption|apply q0|apply q3);apply r0)|apply w4)|(apply gW;first|apply w6|apply w7|apply wa|apply wd)|apply w5|apply wg
      exact rt2 (H' := H) rfl rfl rfl (.refl _) (by repeat first|exact s0|(apply su1;assumption)) hK
end Abs
end Go.Proofs.Ytpifnlodilcgkaa

set_option linter.unusedVariables false
namespace Go.Proofs.Ytpifnlodilcgkaa
namespace Abs
set_option linter.unusedSimpArgs false
set_option maxRecDepth 10000
set_option maxHeartbeats 2000000
attribute [local irreducible] AOps AW AP ACalls thenQ inBlk noGoto

/-! ### tables of nodes that may be -/
def Tab.clean0 (T : Tab) : Prop := ∀ n ∈ T.nodes, n = Node.zero ∨ nodeOk n = true
structure Tab.good (T : Tab) : Prop where
  wf : T.wf
  clean : T.clean0
theorem ok_few {n : Node} (h : nodeOk n = true) : n.few := by
  have hk := nodeOk_kind0 h
  rcases hk with e | e | e
  · unfold nodeOk at h; rw [e] at h; simp at h
    refine ⟨by rw [h.2.1.1]; simp, by omega, by rw [h.2.1.2]; decide, fun x hx => by rw [h.2.1.1] at hx; cases hx⟩
  · have h' := (dirOk_iff e).1 h
    have h2 := (rising_iff _).1 h'.2.2.2
    refine ⟨by omega, by omega, by rw [h'.2.2.1]; decide, fun x hx => ?_⟩
    have := (h2.1 x hx).1
    simp only [nameOk, Bool.and_eq_true, decide_eq_true_eq] at this
    have := this.1.1.1.2
    omega
  · unfold nodeOk at h
    rw [if_neg (show ¬ n.kind = 1 by omega), if_neg (show ¬ n.kind = 2 by omega), if_pos e] at h
    simp only [Bool.and_eq_true, decide_eq_true_eq] at h
    obtain ⟨_, ⟨h1, _⟩, h3⟩ := h
    have h2 : n.ents = [] := List.length_eq_zero_iff.1 (by omega)
    refine ⟨by omega, by omega, ?_, fun x hx => by rw [h2] at hx; cases hx⟩
    unfold fitsOk at h3
    simp only [Bool.and_eq_true, decide_eq_true_eq] at h3
    have := h3.1.2
    omega
theorem zero_few : Node.zero.few := ⟨by decide, by decide, by decide, fun e he => by cases he⟩
theorem cget_few {T : Tab} (hc : T.clean0) (i : Int) : (T.get i).few := by
  unfold Tab.get
  rw [List.getD_eq_getElem?_getD]
  rcases Nat.lt_or_ge (i - 1).toNat T.nodes.length with h | h
  · rw [List.getElem?_eq_getElem h]
    rcases hc _ (List.getElem_mem h) with e | e
    · rw [Option.getD_some, e]; exact zero_few
    · exact ok_few e
  · rw [List.getElem?_eq_none h]; exact zero_few
theorem good_put {T : Tab} (h : T.good) {n : Node} (hn : nodeOk n = true) (k : Nat) : (T.put k n).good := ⟨put_wf h.wf (ok_few hn).small k, fun m hm => by
  rcases List.mem_or_eq_of_mem_set hm with hm | rfl
  · exact h.clean m hm
  · exact .inr hn⟩
theorem good_new (room : Int) : (Tab.new room).good := ⟨new_wf room, fun n hn => .inl (List.eq_of_mem_replicate hn)⟩
theorem good_add {T : Tab} (h : T.good) (n : Node) : (T.add n).1.good := by
  unfold Tab.add
  split
  · rename_i hn
    split
    · exact good_put h hn _
    · exact h
  · exact h
theorem good_putE {T : Tab} (h : T.good) (i : Int) (n : Node) : (T.putE i n).1.good := by
  unfold Tab.putE
  split
  · split
    · rename_i hn; exact good_put h hn _
    · exact h
  · exact h
theorem good_told {T : Tab} (h : T.good) (r : Raw) : (r.told T).1.good := by
  unfold Raw.told
  split
  · exact good_add h _
  · split
    · split <;> exact h
    · exact h
/-- The node of a number; none: one of kind 0. -/
def Tab.at (T : Tab) (i : Int) : Node := if T.has i then T.get i else Node.zero
theorem at_few {T : Tab} (h : T.good) (i : Int) : (T.at i).few := by
  unfold Tab.at
  split
  · exact cget_few h.clean i
  · exact zero_few
def Raw.one (r : Raw) (T : Tab) : Tab × Int :=
  if T.has r.parent = true then
    (if ¬ (r.told T).2.2 = 0 then ((r.told T).1, (r.told T).2.2)
     else if ¬ (((r.told T).1.at r.parent).withE r.name (r.told T).2.1) = 0 then ((r.told T).1, ((r.told T).1.at r.parent).withE r.name (r.told T).2.1)
     else (r.told T).1.putE r.parent (((r.told T).1.at r.parent).withN r.name (r.told T).2.1))
  else (T, 2)
theorem good_one {T : Tab} (h : T.good) (r : Raw) : (r.one T).1.good := by
  have h1 := good_told h r
  unfold Raw.one
  split
  · split
    · exact h1
    · split
      · exact h1
      · exact good_putE h1 _ _
  · exact h
theorem one1_c {r : Raw} (hr : r.few) {t : Nat} {T : Tab} (hg : T.good) {H : AHeap} (hT : H t = some (.cells (encTab T))) {K : AVal → AHeap → Prop}
    (hK : K (.i (r.one T).2) (H.put t (.cells (encTab (r.one T).1)))) : ACalls Try.prog 51 [.agg (encRaw r), .ptr t 0] H K := by
  refine acalls_body Try.func51 rfl rfl rfl ?_
  unfold Raw.one at hK
  have hw := hg.wf
  repeat first|apply w6|apply w7
  refine s_box rfl rfl rfl (fun b2 hb2 => ?_); have hb := hb2; (try simp only [put_none_iff, prot_none_iff] at hb); (repeat obtain ⟨_, _, hb⟩ := hb)
  repeat first|(apply x1;apply r0;apply r0)|(apply x2;apply r0;(apply q0);apply r0)|apply w4|apply w6|apply w7|apply w5
  refine s_clo rfl rfl rfl (fkall rfl) ?_
  refine get_c hw (by with_reducible repeat first|exact q1 ‹_›|apply q3|exact n2 ‹_› ‹_›) ?_
  repeat (apply x1;apply r0;apply r0)
  refine s_alloc tk rfl rfl rfl (fun b6 hb6 => ?_); have hb := hb6; (try simp only [put_none_iff, prot_none_iff] at hb); (repeat obtain ⟨_, _, hb⟩ := hb)
  (apply xst;apply r0;(apply ps);apply r0)
  rw [put_put]
  cases hh : T.has r.parent with
  | false =>
    rw [hh, if_neg (by decide), put_id' hT] at hK
    repeat first|(apply gO;first|(apply x1;apply r0;apply r0)|apply w4)|(apply gW;first|apply w6|apply w7|(apply w8;apply r0)|apply wd)|apply w5|apply we
    exact rt1 (H' := H) rfl rfl (.refl _) (by repeat first|exact s0|(apply su1;assumption)) hK
  | true =>
    rw [hh, if_pos rfl] at hK
    rw [if_pos rfl]
    repeat first|(apply gO;first|(apply x1;apply r0;apply r0)|(apply x2;apply r0;(with_reducible repeat first|assumption|apply q0|apply q3);apply r0)|(apply x9;apply r0)|apply w4)|(apply gW;first|apply w6|apply w7|(apply w9;apply r0)|apply wa)|apply w5
    refine told_c hr hw (by with_reducible repeat first|assumption|apply gp|exact n2 ‹_› ‹_›) ?_
    have hg1 := good_told hg r
    generalize r.told T = q at hg1 hK ⊢
    obtain ⟨T1, id, e⟩ := q
    simp only at hg1 hK ⊢
    repeat first|(apply x1;apply r0;apply r0)|apply w4|apply w6|apply w7|apply w5
    refine aw_cond rfl (fun c => ?_) (fun c => ?_)<;>first|replace c:=not_t c|replace c:=not_f c
    · rw [if_pos c] at hK
      repeat first|(apply x1;apply r0;apply r0)|apply w4|apply w6|apply w7|apply wd|apply w5|apply we
      exact rt1 rfl rfl (.refl _) (by repeat first|exact s1|(apply su2;assumption)|apply put_sub') hK
    rw [if_neg (fun h => h c)] at hK
    repeat first|(apply x1;apply r0;apply r0)|(apply x2;apply r0;(with_reducible repeat first|assumption|apply q0|apply q3|exact n4 ‹_› ‹_›);apply r0)|apply w6|apply w7|apply wa|apply w5
    refine s_clo rfl rfl rfl (fkall rfl) ?_
    refine get_c hg1.wf (by apply q0) ?_
    rw [show (if T1.has r.parent = true then T1.get r.parent else Node.zero) = T1.at r.parent from rfl]
    have hfw := at_few hg1 r.parent
    repeat (apply x1;apply r0;apply r0)
    refine s_alloc tk rfl rfl rfl (fun b10 hb10 => ?_); have hb := hb10; (try simp only [put_none_iff, prot_none_iff] at hb); (repeat obtain ⟨_, _, hb⟩ := hb)
    (apply xst;apply r0;(apply ps);apply r0)
    rw [put_put]
    repeat first|(apply x1;apply r0;apply r0)|(apply x2;apply r0;(with_reducible repeat first|assumption|apply q0|apply q3|exact n4 ‹_› ‹_›);apply r0)|(apply x9;apply r0)|apply w4|apply w6|apply w7|apply w5
    refine nwith_c hfw.small (by have := hr.1; omega) ?_
    have hsz := withN_sizes hfw hr.1 id
    repeat first|(apply x1;apply r0;apply r0)|(apply xst;apply r0;(apply ps);apply r0)|apply w4|apply w6|apply w7|apply w5
    refine aw_cond rfl (fun d => ?_) (fun d => ?_)<;>first|replace d:=not_t d|replace d:=not_f d
    · rw [if_pos d] at hK
      repeat first|(apply x1;apply r0;apply r0)|apply w4|apply w6|apply w7|apply wd|apply w5|apply we
      exact rt1 rfl rfl (.refl _) (by repeat first|exact s1|(apply su2;assumption)|(apply su5;assumption;assumption)|apply put_sub') hK
    · rw [if_neg (fun h => h d)] at hK
      repeat first|(apply x1;apply r0;apply r0)|(apply x2;apply r0;(with_reducible repeat first|assumption|apply q0|apply q3|exact n4 ‹_› ‹_›);apply r0)|(apply x9;apply r0)|apply w6|apply w7|apply wa|apply w5
      refine put2_c hg1.wf hsz.1 (by with_reducible repeat first|assumption|apply ps|apply gp) ?_
      repeat first|(apply x1;apply r0;apply r0)|apply w4|apply wd|apply w5
      exact rt1 rfl rfl (.refl _) (by repeat first|exact s1|(apply su2;assumption)|apply put_sub'|apply del_sub1) hK
def buildFrom (T : Tab) (i : Int) : List Raw → Option Tab × Int × Int
  | [] => (some T, 0, 0)
  | r :: l => if (r.one T).2 = 0 then buildFrom (r.one T).1 (i + 1) l else (none, i + 1, (r.one T).2)
def build (room : Int) : List Raw → Option Tab × Int × Int
  | [] => (none, 0, 22)
  | r :: l => if ¬ r.kind = 2 ∨ ¬ r.parent = 0 ∨ ¬ r.name = ⟨#[]⟩ then (none, 0, 22)
    else if ¬ ((Tab.new room).add r.made).2.2 = 0 then (none, 0, ((Tab.new room).add r.made).2.2) else buildFrom ((Tab.new room).add r.made).1 0 l
end Abs
end Go.Proofs.Ytpifnlodilcgkaa

set_option linter.unusedVariables false
namespace Go.Proofs.Ytpifnlodilcgkaa
namespace Abs
set_option linter.unusedSimpArgs false
set_option maxRecDepth 10000
set_option maxHeartbeats 2000000
attribute [local irreducible] AOps AW AP ACalls thenQ inBlk noGoto

/-! ### package build: Build -/
theorem good_buildFrom : ∀ {l : List Raw} {T : Tab} {i : Int}, T.good → ∀ T', (buildFrom T i l).1 = some T' → T'.good
  | [], T, i, h, T', e => by cases e; exact h
  | r :: l, T, i, h, T', e => by
    unfold buildFrom at e
    split at e
    · exact good_buildFrom (good_one h r) T' e
    · cases e
theorem buildFrom_cons (T : Tab) (i : Int) (r : Raw) (l : List Raw) : buildFrom T i (r :: l) = if (r.one T).2 = 0 then buildFrom (r.one T).1 (i + 1) l else (none, i + 1, (r.one T).2) := rfl
theorem build_cons (room : Int) (r : Raw) (l : List Raw) : build room (r :: l) = if ¬ r.kind = 2 ∨ ¬ r.parent = 0 ∨ ¬ r.name = ⟨#[]⟩ then (none, 0, 22)
    else if ¬ ((Tab.new room).add r.made).2.2 = 0 then (none, 0, ((Tab.new room).add r.made).2.2) else buildFrom ((Tab.new room).add r.made).1 0 l := rfl
theorem good_build {room : Int} {l : List Raw} {T : Tab} (h : (build room l).1 = some T) : T.good := by
  cases l with
  | nil => cases h
  | cons r l =>
    rw [build_cons] at h
    split at h
    · cases h
    · split at h
      · cases h
      · exact good_buildFrom (good_add (good_new room) r.made) T h
theorem rt3 {n : Nat} {F : Fr} {H : AHeap} {fn : Func} {R : AVal → AHeap → Prop} {H' : AHeap} {p u v : Tmp} {v1 v2 v3 : AVal} {w : AVal} (hr : fn.results = #[.tmp p, .tmp u, .tmp v]) (h1 : F.get p = some v1) (h2 : F.get u = some v2) (h3 : F.get v = some v3)
    (hw : Wk (.tup [v1, v2, v3]) w) (hs : H'.sub H) (hK : R w H') : retQ Try.prog fn n R .ret F H := ⟨_, res3 hr (rvar_tmp h1) (rvar_tmp h2) (rvar_tmp h3), _, _, hw, hs, hK⟩
theorem build_c {room : Int} {l : List Raw} (hl : l.length ≤ 1000) (hf : ∀ r ∈ l, r.few) {o : Own} {H : AHeap} {K : AVal → AHeap → Prop}
    (h0 : (build room l).1 = none → K (.tup [.nilp, .i (build room l).2.1, .i (build room l).2.2]) H)
    (h1 : ∀ T t, (build room l).1 = some T → H t = none → K (.tup [.ptr t 0, .i (build room l).2.1, .i (build room l).2.2]) (H.put t (.cells (encTab T)))) : ACalls Try.prog 24 [.i room, .sl (encRaws l) o] H K := by
  refine acalls_body Try.func24 rfl rfl rfl ?_
  have ll := raws_len l
  repeat first|(apply x1;apply r0;apply r0)|apply w4|apply w6|apply w7|apply w5
  refine s_gsplit rfl rfl (fun g => ?_) (fun g => ?_)
  · have hnil : l = [] := List.length_eq_zero_iff.1 (by have := of_decide_eq_true g; omega)
    subst hnil
    repeat first|(apply gO;first|(apply x1;apply r0;apply r0)|apply w4|(apply w3;apply r0;apply r0))|(apply gW;first|apply w6|apply w7|(apply w8;apply r0)|apply wd)|apply w5|apply we
    exact rt3 rfl rfl rfl rfl (.refl _) (AHeap.sub_refl _) (h0 rfl)
  have hpos : 0 < l.length := by have := of_decide_eq_false g; omega
  obtain ⟨r, l, rfl⟩ : ∃ r l', l = r :: l' := by
    cases l with
    | nil => simp at hpos
    | cons r l => exact ⟨r, l, rfl⟩
  have hget : (encRaws (r :: l))[(0 : Int).toNat]? = some (encRaw r) := rfl
  repeat first|(apply x1;apply r0;apply r0)|(apply x5;apply r0)
  refine s_index tk rfl rfl rfl rfl (by decide) hget rfl ?_
  repeat first|(apply x1;apply r0;apply r0)|(apply x3;apply r0)|(apply x5;apply r0)
  refine s_gsplit rfl rfl (fun g1 => ?_) (fun g1 => ?_)<;>first|replace g1:=not_t g1|replace g1:=not_f g1
  case refine_1 => 
    have hB : build room (r :: l) = (none, 0, 22) := by
      rw [build_cons]
      rw [if_pos (.inl g1)]
    rw [hB] at h0
    repeat first|(apply gO;first|(apply x1;apply r0;apply r0)|apply w4|(apply w3;apply r0;apply r0))|(apply gW;first|apply w6|apply w7|(apply w8;apply r0)|apply wd)|apply w5|apply we
    exact rt3 rfl rfl rfl rfl (.refl _) (AHeap.sub_refl _) (h0 rfl)
  repeat first|(apply x1;apply r0;apply r0)|(apply x5;apply r0)
  refine s_index tk rfl rfl rfl rfl (by decide) hget rfl ?_
  repeat first|(apply x1;apply r0;apply r0)|(apply x3;apply r0)|(apply x5;apply r0)
  refine s_gsplit rfl rfl (fun g2 => ?_) (fun g2 => ?_)<;>first|replace g2:=not_t g2|replace g2:=not_f g2
  case refine_1 => 
    have hB : build room (r :: l) = (none, 0, 22) := by
      rw [build_cons]
      rw [if_pos (.inr (.inl g2))]
    rw [hB] at h0
    repeat first|(apply gO;first|(apply x1;apply r0;apply r0)|apply w4|(apply w3;apply r0;apply r0))|(apply gW;first|apply w6|apply w7|(apply w8;apply r0)|apply wd)|apply w5|apply we
    exact rt3 rfl rfl rfl rfl (.refl _) (AHeap.sub_refl _) (h0 rfl)
  repeat first|(apply x1;apply r0;apply r0)|(apply x5;apply r0)
  refine s_index tk rfl rfl rfl rfl (by decide) hget rfl ?_
  repeat first|(apply x1;apply r0;apply r0)|(apply x3;apply r0)|(apply x5;apply r0)|apply w4|apply w5
  refine aw_cond rfl (fun g3 => ?_) (fun g3 => ?_)<;>first|replace g3:=not_t g3|replace g3:=not_f g3
  · have hB : build room (r :: l) = (none, 0, 22) := by
      rw [build_cons]
      rw [if_pos (.inr (.inr g3))]
    rw [hB] at h0
    repeat first|(apply x1;apply r0;apply r0)|apply w4|apply w6|apply w7|apply wd|apply w5|apply we
    exact rt3 rfl rfl rfl rfl (.refl _) (AHeap.sub_refl _) (h0 rfl)
  have hB : build room (r :: l) = if ¬ ((Tab.new room).add r.made).2.2 = 0 then (none, 0, ((Tab.new room).add r.made).2.2) else buildFrom ((Tab.new room).add r.made).1 0 l := by
    rw [build_cons]
    rw [if_neg (by rintro (h | h | h) <;> contradiction)]
  rw [hB] at h0 h1
  have hl9 : l.length ≤ 999 := by simpa using hl
  have hrf := hf r List.mem_cons_self
  have hlf : ∀ x ∈ l, x.few := fun x hx => hf x (List.mem_cons_of_mem _ hx)
  repeat first|(apply x1;apply r0;apply r0)|(apply x9;apply r0)|apply w6|apply w7|apply wa|apply w5
  refine new_c (fun t ht => ?_)
  repeat first|(apply x1;apply r0;apply r0)|apply w4|apply w6|apply w7|apply w5
  refine s_index tk rfl rfl rfl rfl (by decide) hget rfl ?_
  repeat first|(apply x3;apply r0)|(apply x9;apply r0)
  refine made_c ?_
  repeat (apply x9;apply r0)
  have hg0 := good_new room
  refine add2_c hg0.wf hrf.made.small (put_same _ _ _) ?_
  have hg1 := good_add hg0 r.made
  generalize (Tab.new room).add r.made = q at hg1 h0 h1 ⊢
  obtain ⟨T1, id, e⟩ := q
  simp only at hg1 h0 h1 ⊢
  rw [put_put]
  repeat first|(apply x1;apply r0;apply r0)|apply w4|apply w6|apply w7|apply w5
  refine aw_cond rfl (fun c => ?_) (fun c => ?_)<;>first|replace c:=not_t c|replace c:=not_f c
  · rw [if_pos c] at h0
    repeat first|(apply x1;apply r0;apply r0)|apply w4|apply w6|apply w7|apply wd|apply w5|apply we
    exact rt3 rfl rfl rfl rfl (.refl _) (by repeat first|exact s0|(apply su1;assumption)) (h0 rfl)
  rw [if_neg (fun h => h c)] at h0 h1
  repeat first|(apply x1;apply r0;apply r0)|apply w6|apply w7|apply wa|apply w5
  refine s_slice tk rfl rfl rfl (raws_uni _) rfl rfl (by decide) (by rw [ll]; simp only [List.length_cons]; omega) (Int.le_refl _) ?_
  have hsl : ((encRaws (r :: l)).take ((((encRaws (r :: l)).length : Nat) : Int)).toNat).drop (1 : Int).toNat = encRaws l := by
    rw [Int.toNat_natCast, List.take_length]; rfl
  rw [hsl]
  have ll2 := raws_len l
  repeat first|(apply x1;apply r0;apply r0)|apply w4|apply wb|apply w5
  refine aw_loop (fun s : Nat × Tab => s.1 ≤ l.length ∧ s.2.good ∧ buildFrom s.2 s.1 (l.drop s.1) = buildFrom T1 0 l) (fun s => [(7, .ptr t 0), (52, .sl (encRaws l) .no), (53, .i (encRaws l).length), (54, .i s.1)]) (fun s => H.put t (.cells (encTab s.2))) (fun s => l.length - s.1) (0, T1) ⟨Nat.zero_le _, hg1, rfl⟩ (by repeat (first | exact Fr.sub_nil _ | refine Fr.sub_cons rfl ?_)) (AHeap.sub_refl _) ?_
  rintro ⟨k, T⟩ ⟨hk, hg, hbf⟩
  simp only at hk hg hbf
  repeat first|(apply x1;apply r0;apply r0)|apply w4|apply w6|apply w7|apply w5
  refine aw_cond rfl (fun d => ?_) (fun d => ?_)<;>first|replace d:=of_decide_eq_true d|replace d:=of_decide_eq_false d
  · have hkl : k < l.length := by omega
    have hgk : (encRaws l)[(k : Int).toNat]? = some (encRaw l[k]) := by simp [encRaws, hkl]
    have hfk := hlf _ (List.getElem_mem hkl)
    rw [List.drop_eq_getElem_cons hkl] at hbf
    rw [buildFrom_cons] at hbf
    generalize l[k] = x at hgk hfk hbf
    repeat first|(apply x1;apply r0;apply r0)|apply w6|apply w7|apply wa|apply wb|apply w5
    refine s_index tk rfl rfl rfl rfl (by omega) hgk rfl ?_
    repeat (apply x3;apply r0)
    refine s_alloc tk rfl rfl rfl (fun b11 hb11 => ?_); have hb := hb11; (try simp only [put_none_iff, prot_none_iff] at hb); (repeat obtain ⟨_, _, hb⟩ := hb)
    repeat first|(apply gO;first|(apply x1;apply r0;apply r0)|(apply x2;apply r0;(with_reducible repeat first|apply q0|apply ps);apply r0)|(apply xst;apply r0;(with_reducible repeat first|apply q0|apply ps);apply r0)|(apply x9;apply r0)|apply w4)|(apply gW;first|apply w6|apply w7)|apply w5
    refine one1_c hfk hg (by with_reducible repeat first|assumption|apply ps|apply gp) ?_
    have hg2 := good_one hg x
    generalize x.one T = q at hg2 hbf ⊢
    obtain ⟨T2, e2⟩ := q
    simp only at hg2 hbf ⊢
    repeat first|(apply x1;apply r0;apply r0)|apply w4|apply w6|apply w7|apply w5
    refine aw_cond rfl (fun f => ?_) (fun f => ?_)<;>first|replace f:=not_t f|replace f:=not_f f
    · rw [if_neg f] at hbf
      rw [← hbf] at h0
      repeat first|(apply gO;first|(apply x1;apply r0;apply r0)|apply w4|(apply x6;apply r0;omega))|(apply gW;first|apply w6|apply w7|apply wd)|apply w5|apply we|apply wj
      exact rt3 rfl rfl rfl rfl (.refl _) (by repeat first|exact s0|(apply su1;assumption)) (h0 rfl)
    · rw [if_pos f] at hbf
      repeat first|(apply x1;apply r0;apply r0)|apply w4|(apply x6;apply r0;omega)|apply w7|apply wa|apply w5|apply wg
      refine ⟨(k + 1, T2), ⟨hkl, hg2, ?_⟩, by simp only; omega, (by repeat (first | exact Fr.sub_nil _ | refine Fr.sub_cons rfl ?_)), ?_⟩
      · rw [← hbf]; rfl
      · exact (by repeat first|exact s1|(apply su2;assumption)|apply put_sub')
  · have hkl : k = l.length := by omega
    subst hkl
    rw [List.drop_length] at hbf
    rw [← hbf] at h1
    repeat first|(apply gO;first|(apply x1;apply r0;apply r0)|apply w4)|(apply gW;first|apply w6|apply w7|apply wd|apply wc)|apply w5|apply wf|apply wh
    exact rt3 rfl rfl rfl rfl (.refl _) (AHeap.sub_refl _) (h1 T t rfl ht)
end Abs
end Go.Proofs.Ytpifnlodilcgkaa
