import Derived.Test.YtpifnlodilcgkaaQ10
import Derived.Test.YtpifnlodilcgkaaA10
import Derived.Test.YtpifnlodilcgkaaP0
import Derived.Test.YtpifnlodilcgkaaN1
set_option linter.unusedVariables false
namespace Go.Proofs.Ytpifnlodilcgkaa
namespace Abs
set_option linter.unusedSimpArgs false
set_option maxRecDepth 10000
set_option maxHeartbeats 2000000
attribute [local irreducible] AOps AW AP ACalls thenQ inBlk noGoto

/-! ### package node: places -/
def idxI : Option Nat → Int
  | some k => k
  | none => -1
theorem indexFunc_c {l : List Ent} {o : Own} {f : FuncId} {fs cs : List AVal} {p : Ent → Bool} {H : AHeap} {K : AVal → AHeap → Prop} (hl : l.length ≤ 1073741824) (hf : hasN bods f = true)
    (hp : ∀ (e : Ent) (K' : AVal → AHeap → Prop), K' (.b (p e)) H → ACalls Try.prog f (fs ++ [.agg (encEnt e)] ++ cs) H K') (hK : K (.i (idxI (l.findIdx? p))) H) :
    ACalls Try.prog 114 [.sl (l.map encEnt) o, .clo f fs cs] H K := by
  refine acalls_body Try.func114 rfl rfl rfl ?_
  have ll := ents_len l
  repeat first|(apply x1;apply r0;apply r0)|apply w4|apply w6|apply w7|apply wb|apply w5
  refine aw_loop (fun k : Nat => k ≤ l.length ∧ ∀ j (h : j < l.length), j < k → p l[j] = false) (fun k => [(0, .sl (l.map encEnt) o), (1, .clo f fs cs), (7, .i (l.map encEnt).length), (8, .i k)]) (fun _ => H) (fun k => l.length - k) 0 ⟨Nat.zero_le _, fun j h h' => absurd h' (Nat.not_lt_zero _)⟩ (by repeat (first | exact Fr.sub_nil _ | refine Fr.sub_cons rfl ?_)) (AHeap.sub_refl _) ?_
  rintro k ⟨hk, hall⟩
  repeat first|(apply x1;apply r0;apply r0)|apply w4|apply w6|apply w7|apply w5
  refine aw_cond rfl (fun c => ?_) (fun c => ?_)<;>first|replace c:=of_decide_eq_true c|replace c:=of_decide_eq_false c
  · have c' : k < l.length := by omega
    repeat first|(apply x1;apply r0;apply r0)|apply w4|apply w6|apply w7|apply wa|apply wb|apply w5
    refine s_index tk rfl rfl rfl rfl (by omega) (map_get rfl c') rfl ?_
    repeat (apply x3;apply r0)
    refine s_clo rfl rfl rfl (fkall hf) ?_
    refine hp _ _ ?_
    repeat first|apply w4|apply w5
    refine aw_cond rfl (fun e => ?_) (fun e => ?_)
    · have : l.findIdx? p = some k := by
        rw [List.findIdx?_eq_some_iff_getElem]
        exact ⟨c', e, fun j hj => by rw [hall j (by omega) hj]; simp⟩
      rw [this] at hK
      repeat first|(apply gO;first|(apply x1;apply r0;apply r0)|apply w4)|(apply gW;first|apply w6|apply w7|apply wd)|apply w5|apply we|apply wj
      exact rt1 rfl rfl (.refl _) (AHeap.sub_refl _) hK
    · repeat first|(apply x1;apply r0;apply r0)|apply w4|(apply x6;apply r0;omega)|apply w7|apply wa|apply w5|apply wg
      exact ⟨k + 1, ⟨c', fun j h h' => by
        rcases Nat.lt_or_ge j k with h2 | h2
        · exact hall j h h2
        · have : j = k := by omega
          subst this; exact e⟩, by omega, (by repeat (first | exact Fr.sub_nil _ | refine Fr.sub_cons rfl ?_)), AHeap.sub_refl _⟩
  · have hke : k = l.length := by omega
    have : l.findIdx? p = none := by
      rw [List.findIdx?_eq_none_iff]
      intro x hx
      obtain ⟨j, hj, rfl⟩ := List.mem_iff_getElem.1 hx
      exact hall j hj (by omega)
    rw [this] at hK
    repeat first|(apply gO;first|(apply x1;apply r0;apply r0)|apply w4)|(apply gW;first|apply w6|apply w7|apply wd|apply wc)|apply w5|apply wf|apply wh
    exact rt1 rfl rfl (.refl _) (AHeap.sub_refl _) hK
theorem place1_c {e : Ent} {name : ByteArray} {b : Nat} {H : AHeap} {K : AVal → AHeap → Prop} (hR : Rd H b [.s name]) (hK : K (.b (decide (e.name = name))) H) : ACalls Try.prog 126 [.agg (encEnt e), .ptr b 0] H K := by
  refine acalls_body Try.func126 rfl rfl rfl ?_
  repeat first|apply w6|apply w7
  refine s_box rfl rfl rfl (fun b2 hb2 => ?_); have hb := hb2; (try simp only [put_none_iff, prot_none_iff] at hb); (repeat obtain ⟨_, _, hb⟩ := hb)
  repeat first|(apply x1;apply r0;apply r0)|(apply x2;apply r0;(with_reducible repeat first|assumption|apply q0|apply q3|exact n1 ‹_› ‹_›);apply r0)|apply w4|apply w6|apply w7|apply wd|apply w5
  exact rt1 (H' := H) rfl rfl (.refl _) (by repeat first|exact s0|(apply su1;assumption)) hK
def Node.place (n : Node) (name : ByteArray) : Option Nat := n.ents.findIdx? fun e => decide (e.name = name)
theorem place_c {n : Node} (hs : n.small) {name : ByteArray} {H : AHeap} {K : AVal → AHeap → Prop} (hK : K (.i (idxI (n.place name))) H) : ACalls Try.prog 96 [.agg (encNode n), .s name] H K := by
  refine acalls_body Try.func96 rfl rfl rfl ?_
  repeat first|apply w6|apply w7
  refine s_box rfl rfl rfl (fun b2 hb2 => ?_); have hb := hb2; (try simp only [put_none_iff, prot_none_iff] at hb); (repeat obtain ⟨_, _, hb⟩ := hb)
  skip
  refine s_box rfl rfl rfl (fun b3 hb3 => ?_); have hb := hb3; (try simp only [put_none_iff, prot_none_iff] at hb); (repeat obtain ⟨_, _, hb⟩ := hb)
  repeat first|(apply x1;apply r0;apply r0)|(apply x2;apply r0;(with_reducible repeat first|assumption|apply q0|apply q3);apply r0)|(apply x9;apply r0)|apply w4|apply w6|apply w7|apply w5
  refine indexFunc_c (p := fun e => decide (e.name = name)) hs.2 rfl (fun e K' hK' => place1_c (by apply q0) hK') ?_
  repeat first|(apply x1;apply r0;apply r0)|apply w4|apply wd|apply w5
  exact rt1 (H' := H) rfl rfl (.refl _) (by repeat first|exact s0|(apply su1;assumption)) hK
theorem place_lt {n : Node} {name : ByteArray} {k : Nat} (h : n.place name = some k) : ∃ hk : k < n.ents.length, n.ents[k].name = name := by
  obtain ⟨hk, h1, _⟩ := List.findIdx?_eq_some_iff_getElem.1 h
  exact ⟨hk, by simpa using h1⟩
def Node.find (n : Node) (name : ByteArray) : Int := match n.place name with
  | some k => (n.ents.getD k ⟨⟨#[]⟩, 0⟩).node
  | none => 0
theorem find_c {n : Node} (hs : n.small) {name : ByteArray} {H : AHeap} {K : AVal → AHeap → Prop} (hK : K (.i (n.find name)) H) : ACalls Try.prog 61 [.agg (encNode n), .s name] H K := by
  refine acalls_body Try.func61 rfl rfl rfl ?_
  unfold Node.find at hK
  repeat first|apply w6|apply w7
  refine s_box rfl rfl rfl (fun b2 hb2 => ?_); have hb := hb2; (try simp only [put_none_iff, prot_none_iff] at hb); (repeat obtain ⟨_, _, hb⟩ := hb)
  repeat first|(apply x1;apply r0;apply r0)|(apply x2;apply r0;(apply q0);apply r0)|(apply x9;apply r0)|apply w4|apply w6|apply w7|apply w5
  refine place_c hs ?_
  cases hp : n.place name with
  | none =>
    rw [hp] at hK
    repeat first|(apply gO;first|(apply x1;apply r0;apply r0)|apply w4)|(apply gW;first|apply w6|apply w7|(apply w9;apply r0)|apply wa|apply wd)|apply w5
    exact rt1 (H' := H) rfl rfl (.refl _) (by repeat first|exact s0|(apply su1;assumption)) hK
  | some k =>
    rw [hp] at hK
    obtain ⟨hk, _⟩ := place_lt hp
    rw [show idxI (some k) = (k : Int) from rfl]
    repeat first|(apply x1;apply r0;apply r0)|(apply x2;apply r0;(apply q0);apply r0)|apply w4|apply w6|apply w7|(apply w8;apply r0)|apply w5
    refine s_index tk rfl rfl rfl rfl (by omega) (map_get rfl hk) rfl ?_
    repeat first|(apply x1;apply r0;apply r0)|(apply x3;apply r0)|apply w4|apply wd|apply w5|apply we
    refine rt1 (H' := H) rfl rfl (.refl _) (by repeat first|exact s0|(apply su1;assumption)) ?_
    simp only [List.getD_eq_getElem?_getD, List.getElem?_eq_getElem hk, Option.getD_some] at hK
    exact hK
/-! ### sizes -/
def Node.size (n : Node) : Int := if n.kind = 1 then n.data.size else if n.kind = 2 then n.ents.length else if n.kind = 3 then n.target.size else 0
end Abs
end Go.Proofs.Ytpifnlodilcgkaa

set_option linter.unusedVariables false
namespace Go.Proofs.Ytpifnlodilcgkaa
namespace Abs
set_option linter.unusedSimpArgs false
set_option maxRecDepth 10000
set_option maxHeartbeats 2000000
attribute [local irreducible] AOps AW AP ACalls thenQ inBlk noGoto

/-! ### a slice of the call's own that grows beside a heap that stays -/
structure OwnSt (X Y : AHeap) (o : Own) : Prop where
  own : Owned Y o
  old : ∀ x, X x ≠ none → Y x = X x ∧ tokB o ≠ some x
theorem OwnSt.sub {X Y : AHeap} {o : Own} (h : OwnSt X Y o) : X.sub Y := fun x p hx => ⟨p, by rw [(h.old x (by rw [hx]; simp)).1]; exact hx, .refl p⟩
theorem OwnSt.get {X Y : AHeap} {o : Own} (h : OwnSt X Y o) {x : Nat} {p : HObj} (hx : X x = some p) : Y x = some p := by rw [(h.old x (by rw [hx]; simp)).1]; exact hx
theorem OwnSt.step {X Y : AHeap} {o o' : Own} (h : OwnSt X Y o) (ha : Apart (Y.free o) o') : OwnSt X ((Y.free o).own o') o' := ⟨owned_new ha, fun x hx => by
  obtain ⟨h1, h2⟩ := h.old x hx
  cases hX : X x with
  | none => exact absurd hX hx
  | some p =>
    have hY : Y x = some p := by rw [h1, hX]
    have h3 := apart_ne ha hY h2
    exact ⟨by rw [free_own_get h2 h3, hY], h3⟩⟩
theorem OwnSt.full (X : AHeap) : OwnSt X X .full := ⟨trivial, fun x _ => ⟨rfl, by intro e; cases e⟩⟩
theorem OwnSt.grow {X Y : AHeap} {b e es : Nat} (hb : X b = none) (hY : ∀ x, x ≠ b → Y x = X x) : OwnSt X (Y.put b (.grow e)) (.tok b e es) := ⟨put_same _ _ _, fun x hx => by
  have hne : x ≠ b := fun e => hx (by rw [e]; exact hb)
  exact ⟨by rw [put_ne hne, hY x hne], fun e => by cases e; exact hne rfl⟩⟩
/-! ### node.with: entries ahead of one place, some, and those from another one on -/
def Node.cut (n : Node) (at_ from_ : Nat) (more : List Ent) : Node := { n with ents := n.ents.take at_ ++ more ++ n.ents.drop from_ }
theorem flat_take (l : List Ent) : ∀ k : Nat, ((l.map encEnt).flatten).take (k * 2) = ((l.take k).map encEnt).flatten := by
  induction l with
  | nil => intro k; simp
  | cons e l ih =>
    intro k
    cases k with
    | zero => simp
    | succ k =>
      have h := ih k
      rw [List.map_cons, List.flatten_cons, Nat.succ_mul, Nat.add_comm, show (encEnt e) = [.s e.name, .i e.node] from rfl]
      simp only [List.take_succ_cons, List.map_cons, List.flatten_cons, List.cons_append, List.nil_append, show 2 + k * 2 = (k * 2) + 1 + 1 by omega, encEnt]
      rw [h]
theorem row_head {A B C : List AVal} {m : Nat} (hA : A.length = m) : ((C.take 0 ++ A ++ B).drop 0).take m = A := by
  simp only [List.take_zero, List.nil_append, List.drop_zero]
  exact List.take_left' hA
theorem with_c {n : Node} (hs : n.small) {p q : Nat} (hp : p ≤ n.ents.length) (hq : q ≤ n.ents.length) {more : List Ent} (hm : more.length ≤ 1) {o : Own} {H : AHeap} {K : AVal → AHeap → Prop} (hK : K (.agg (encNode (n.cut p q more))) H) :
    ACalls Try.prog 116 [.agg (encNode n), .i p, .i q, .sl (more.map encEnt) o] H K := by
  refine acalls_body Try.func116 rfl rfl rfl ?_
  have ll := ents_len n.ents
  have hs1 := hs.1
  have hs2 := hs.2
  repeat first|apply w6|apply w7
  refine s_box rfl rfl rfl (fun b4 hb4 => ?_); have hb := hb4; (try simp only [put_none_iff, prot_none_iff] at hb); (repeat obtain ⟨_, _, hb⟩ := hb)
  skip
  refine s_alloc tk rfl rfl rfl (fun b8 hb8 => ?_); have hb := hb8; (try simp only [put_none_iff, prot_none_iff] at hb); (repeat obtain ⟨_, _, hb⟩ := hb)
  repeat first|(apply x1;apply r0;apply r0)|(apply x2;apply r0;(with_reducible repeat first|assumption|apply q0|apply q3);apply r0)|apply w4|(apply x6;apply r0;omega)|apply w6|apply w7|apply w5
  refine s_make tk rfl rfl rfl rfl rfl rfl (by omega) (by omega) (by omega) (fun b9 h9 => ?_)
  have hb := h9
  (try simp only [put_none_iff, prot_none_iff] at hb); (repeat obtain ⟨_, _, hb⟩ := hb)
  generalize hX : AHeap.put (AHeap.put H _ _) _ _ = X at h9 ⊢
  have fx4 : X b4 = some (.cells (encNode n)) := by rw [← hX]; exact (by with_reducible repeat first|assumption|apply ps|apply gp)
  have fx8 : X b8 = some (.cells [.i 0, .i 0, .i 0, .i 0, .sl [] .full, .sl [] .full, .s ⟨#[]⟩]) := by rw [← hX]; exact (by apply ps)
  have hsub : H.sub X := by rw [← hX]; exact (by repeat first|exact s0|(apply su1;assumption))
  clear hX
  have m4 : b4 ≠ b9 := get_ne fx4 h9
  have m8 : b8 ≠ b9 := get_ne fx8 h9
  repeat first|(apply x1;apply r0;apply r0)|(apply x2;apply r0;(with_reducible repeat first|assumption|exact q1 ‹_›|apply q3);apply r0)|apply w4|apply w6|apply w7|apply w5
  refine s_copy tk rfl rfl rfl (put_same _ _ _) rfl (uni_ents _) (flat_ents _) (by rw [ll]; omega) (by rw [rep_len]; show 0 + p * 2 ≤ (_ : Int).toNat * 2; omega) ?_
  have hpt : ((p : Int)).toNat = p := Int.toNat_natCast p
  have hfl : (((n.ents.map encEnt).flatten).take ((p : Int).toNat * 2)).length = (p : Int).toNat * 2 := by rw [List.length_take, (uni_ents n.ents).len, ll, hpt]; omega
  refine aops_own (d := 9) (rows := (n.ents.take p).map encEnt) (es := 2) rfl (put_same _ _ _) (by decide) (uni_ents _) (by rw [ents_len, List.length_take, hpt]; omega)
    ((row_head hfl).trans (by rw [hpt]; exact flat_take _ _)) (by omega) (by rw [ll]; omega) (by
      rw [List.length_append, List.length_append, List.length_drop, hfl, rep_len, ll]
      simp only [List.length_cons, List.length_nil, List.take_zero]
      omega) ?_
  generalize hY : AHeap.put _ _ _ = Y
  have hown : OwnSt X Y (.tok b9 (0 + (p : Int).toNat * 2) 2) := by
    rw [← hY]
    exact .grow h9 (fun x hx => by rw [put_ne hx, put_ne hx])
  clear hY
  repeat first|(apply x1;apply r0;apply r0)|apply w4|apply w6|apply w7|apply w5
  refine s_append tk rfl rfl rfl rfl rfl (uni_ents _) (uni_ents _) (flat_ents _) hown.own rfl (by rw [ents_len, ents_len, List.length_take]; omega) (fun o1 ha1 he1 => ?_)
  have hown1 := hown.step ha1
  generalize ((Y.free _).own o1) = Z at hown1 ⊢
  have z4 := hown1.get fx4
  rw [← List.map_append]
  repeat first|(apply x1;apply r0;apply r0)|(apply x2;apply r0;(with_reducible repeat exact q1 ‹_›);apply r0)|apply w4|apply w6|apply w7|apply w5
  refine s_slice tk rfl rfl rfl (uni_ents _) rfl rfl (by omega) (by rw [ll]; omega) (by omega) ?_
  rw [show ((n.ents.map encEnt).take (((n.ents.map encEnt).length : Nat) : Int).toNat).drop ((q : Int)).toNat = (n.ents.drop q).map encEnt by
    rw [Int.toNat_natCast, Int.toNat_natCast, List.take_length, List.map_drop]]
  skip
  refine s_append tk rfl rfl rfl rfl rfl (uni_ents _) (uni_ents _) (flat_ents _) hown1.own he1 (by rw [ents_len, ents_len, List.length_append, List.length_take, List.length_drop]; omega) (fun o2 ha2 he2 => ?_)
  have hown2 := hown1.step ha2
  generalize ((Z.free _).own o2) = W at hown2 ⊢
  have k4 := hown2.get fx4
  have k8 := hown2.get fx8
  have hsw : H.sub W := AHeap.sub_trans hsub hown2.sub
  rw [← List.map_append]
  repeat first|(apply gO;first|(apply x1;apply r0;apply r0)|(apply x2;apply r0;(with_reducible repeat first|assumption|apply q0);apply r0)|(apply xst;apply r0;(with_reducible repeat first|assumption|apply q0);apply r0)|(apply x9;apply r0)|apply w4)|(apply gW;first|apply w6|apply w7)|apply w5
  refine clone_bytes (xs := encBytes n.data) (uni_bytes _) (flat_bytes _) (by rw [encBytes_len]; omega) ?_
  repeat first|(apply gO;first|(apply x1;apply r0;apply r0)|(apply x2;apply r0;(with_reducible repeat first|assumption|apply q0|apply ps|apply gp);apply r0)|(apply xst;apply r0;(with_reducible repeat first|assumption|apply q0|apply ps|apply gp);apply r0)|apply w4)|(apply gW;first|apply w6|apply w7|apply wd)|apply w5
  refine rt1c (H' := H) rfl rfl rd_new rfl rfl (wk_agg (l' := encNode (n.cut p q more)) rfl) ?_ hK
  exact (by repeat first|assumption|(apply su1;assumption))
end Abs
end Go.Proofs.Ytpifnlodilcgkaa

set_option linter.unusedVariables false
namespace Go.Proofs.Ytpifnlodilcgkaa
namespace Abs
set_option linter.unusedSimpArgs false
set_option maxRecDepth 10000
set_option maxHeartbeats 2000000
attribute [local irreducible] AOps AW AP ACalls thenQ inBlk noGoto

/-! ### node.With, node.Without -/
def gtB (name : ByteArray) (e : Ent) : Bool := !(Op.bytesLess e.name.toList name.toList || decide (e.name = name))
theorem with1_c {e : Ent} {name : ByteArray} {b : Nat} {H : AHeap} {K : AVal → AHeap → Prop} (hR : Rd H b [.s name]) (hK : K (.b (gtB name e)) H) : ACalls Try.prog 115 [.agg (encEnt e), .ptr b 0] H K := by
  refine acalls_body Try.func115 rfl rfl rfl ?_
  repeat first|apply w6|apply w7
  refine s_box rfl rfl rfl (fun b2 hb2 => ?_); have hb := hb2; (try simp only [put_none_iff, prot_none_iff] at hb); (repeat obtain ⟨_, _, hb⟩ := hb)
  repeat first|(apply x1;apply r0;apply r0)|(apply x2;apply r0;(with_reducible repeat first|assumption|apply q0|apply q3|exact n1 ‹_› ‹_›);apply r0)|apply w4|apply w6|apply w7|apply wd|apply w5
  exact rt1 (H' := H) rfl rfl (.refl _) (by repeat first|exact s0|(apply su1;assumption)) hK
def badName (name : ByteArray) (id : Int) : Bool := decide (id < 1) || decide (name = ⟨#[]⟩) || decide (name = ⟨#[46]⟩) || decide (name = ⟨#[46, 46]⟩) || (hasB name 47 || hasB name 0)
def Node.withE (n : Node) (name : ByteArray) (id : Int) : Int :=
  if ¬ n.kind = 2 then 20 else if badName name id = true then 22 else if 12 < (name.size : Int) then 36 else if (n.place name).isSome = true then 17 else if 8 ≤ n.ents.length then 28 else 0
def Node.spot (n : Node) (name : ByteArray) : Nat := (n.ents.findIdx? (gtB name)).getD n.ents.length
def Node.withN (n : Node) (name : ByteArray) (id : Int) : Node := if n.withE name id = 0 then n.cut (n.spot name) (n.spot name) [⟨name, id⟩] else Node.zero
theorem nwith_c {n : Node} (hs : n.small) {name : ByteArray} (hn : name.size < 4294967281) {id : Int} {H : AHeap} {K : AVal → AHeap → Prop} (hK : K (.tup [.agg (encNode (n.withN name id)), .i (n.withE name id)]) H) : ACalls Try.prog 87 [.agg (encNode n), .s name, .i id] H K := by
  refine acalls_body Try.func87 rfl rfl rfl ?_
  have ll := ents_len n.ents
  have err : ∀ E : Int, E ≠ 0 → n.withE name id = E → K (.tup [.agg (encNode Node.zero), .i E]) H := fun E h0 h => by
    rw [Node.withN, h, if_neg h0] at hK; exact hK
  repeat first|apply w6|apply w7
  refine s_box rfl rfl rfl (fun b3 hb3 => ?_); have hb := hb3; (try simp only [put_none_iff, prot_none_iff] at hb); (repeat obtain ⟨_, _, hb⟩ := hb)
  skip
  refine s_box rfl rfl rfl (fun b4 hb4 => ?_); have hb := hb4; (try simp only [put_none_iff, prot_none_iff] at hb); (repeat obtain ⟨_, _, hb⟩ := hb)
  skip
  refine s_alloc tk rfl rfl rfl (fun b6 hb6 => ?_); have hb := hb6; (try simp only [put_none_iff, prot_none_iff] at hb); (repeat obtain ⟨_, _, hb⟩ := hb)
  repeat first|(apply x1;apply r0;apply r0)|(apply x2;apply r0;(with_reducible repeat first|assumption|apply q0|apply q3);apply r0)|apply w4|apply w6|apply w7|apply wb|apply w5
  refine aw_cond rfl (fun c1 => ?_) (fun c1 => ?_)<;>first|replace c1:=not_t c1|replace c1:=not_f c1
  · repeat first|(apply gO;first|(apply x1;apply r0;apply r0)|(apply xst;apply r0;(apply ps);apply r0)|(apply xbd;apply r0)|apply w4)|(apply gW;first|apply w6|apply w7|apply wd)|apply w5|apply we|apply wj
    exact rt2c (H' := H) rfl rfl (by apply q0) rfl (by rfl) rfl (by exact .pair (wk_agg rfl) (.refl _)) (by repeat first|exact s0|(apply su1;assumption)) (err 20 (by decide) (by simp [Node.withE, c1]))
  repeat first|(apply x1;apply r0;apply r0)|apply w6|apply w7
  refine s_gsplit rfl rfl (fun g1 => ?_) (fun g1 => ?_)<;>first|replace g1:=of_decide_eq_true g1|replace g1:=of_decide_eq_false g1
  case refine_1 =>
    repeat first|(apply gO;first|(apply x1;apply r0;apply r0)|(apply xst;apply r0;(apply ps);apply r0)|(apply xbd;apply r0)|apply w4|(apply w3;apply r0;apply r0))|(apply gW;first|apply w6|apply w7|(apply w8;apply r0)|apply wd)|apply w5|apply we|apply wj
    exact rt2c (H' := H) rfl rfl (by apply q0) rfl (by rfl) rfl (by exact .pair (wk_agg rfl) (.refl _)) (by repeat first|exact s0|(apply su1;assumption)) (err 22 (by decide) (by simp [Node.withE, badName, c1, g1]))
  repeat first|(apply x1;apply r0;apply r0)|(apply x2;apply r0;(with_reducible repeat first|assumption|apply q0|apply q3);apply r0)|(apply x5;apply r0)
  refine s_gsplit rfl rfl (fun g2 => ?_) (fun g2 => ?_)<;>first|replace g2:=of_decide_eq_true g2|replace g2:=of_decide_eq_false g2
  case refine_1 =>
    repeat first|(apply gO;first|(apply x1;apply r0;apply r0)|(apply xst;apply r0;(apply ps);apply r0)|(apply xbd;apply r0)|apply w4|(apply w3;apply r0;apply r0))|(apply gW;first|apply w6|apply w7|(apply w8;apply r0)|apply wd)|apply w5|apply we|apply wj
    exact rt2c (H' := H) rfl rfl (by apply q0) rfl (by rfl) rfl (by exact .pair (wk_agg rfl) (.refl _)) (by repeat first|exact s0|(apply su1;assumption)) (err 22 (by decide) (by simp [Node.withE, badName, c1, g2]))
  repeat first|(apply x1;apply r0;apply r0)|(apply x2;apply r0;(with_reducible repeat first|assumption|apply q0|apply q3);apply r0)|(apply x5;apply r0)
  refine s_gsplit rfl rfl (fun g3 => ?_) (fun g3 => ?_)<;>first|replace g3:=of_decide_eq_true g3|replace g3:=of_decide_eq_false g3
  case refine_1 =>
    repeat first|(apply gO;first|(apply x1;apply r0;apply r0)|(apply xst;apply r0;(apply ps);apply r0)|(apply xbd;apply r0)|apply w4|(apply w3;apply r0;apply r0))|(apply gW;first|apply w6|apply w7|(apply w8;apply r0)|apply wd)|apply w5|apply we|apply wj
    exact rt2c (H' := H) rfl rfl (by apply q0) rfl (by rfl) rfl (by exact .pair (wk_agg rfl) (.refl _)) (by repeat first|exact s0|(apply su1;assumption)) (err 22 (by decide) (by simp [Node.withE, badName, c1, g3]))
  repeat first|(apply x1;apply r0;apply r0)|(apply x2;apply r0;(with_reducible repeat first|assumption|apply q0|apply q3);apply r0)|(apply x5;apply r0)
  refine s_gsplit rfl rfl (fun g4 => ?_) (fun g4 => ?_)<;>first|replace g4:=of_decide_eq_true g4|replace g4:=of_decide_eq_false g4
  case refine_1 =>
    repeat first|(apply gO;first|(apply x1;apply r0;apply r0)|(apply xst;apply r0;(apply ps);apply r0)|(apply xbd;apply r0)|apply w4|(apply w3;apply r0;apply r0))|(apply gW;first|apply w6|apply w7|(apply w8;apply r0)|apply wd)|apply w5|apply we|apply wj
    exact rt2c (H' := H) rfl rfl (by apply q0) rfl (by rfl) rfl (by exact .pair (wk_agg rfl) (.refl _)) (by repeat first|exact s0|(apply su1;assumption)) (err 22 (by decide) (by simp [Node.withE, badName, c1, g4]))
  repeat first|(apply x2;apply r0;(with_reducible repeat first|assumption|apply q0|apply q3);apply r0)|(apply x5;apply r0)|(apply x9;apply r0)
  refine containsAny_c hn ?_
  repeat first|(apply x1;apply r0;apply r0)|apply w4|apply w5
  refine aw_cond rfl (fun g5 => ?_) (fun g5 => ?_)
  · have hbT : badName name id = true := by simp only [badName, g5, Bool.or_true]
    repeat first|(apply gO;first|(apply x1;apply r0;apply r0)|(apply xst;apply r0;(apply ps);apply r0)|(apply xbd;apply r0)|apply w4)|(apply gW;first|apply w6|apply w7|apply wd)|apply w5|apply we|apply wj
    exact rt2c (H' := H) rfl rfl (by apply q0) rfl (by rfl) rfl (by exact .pair (wk_agg rfl) (.refl _)) (by repeat first|exact s0|(apply su1;assumption)) (err 22 (by decide) (by simp only [Node.withE, hbT, if_neg (show ¬ ¬ n.kind = 2 from fun h => h c1)]; simp))
  have g5' : (hasB name 47 || hasB name 0) = false := by simpa using g5
  have hb : badName name id = false := by simp [badName, g1, g2, g3, g4, g5']
  repeat first|(apply x1;apply r0;apply r0)|(apply x2;apply r0;(with_reducible repeat first|assumption|apply q0|apply q3);apply r0)|apply w4|apply w6|apply w7|apply w5
  refine aw_cond rfl (fun c2 => ?_) (fun c2 => ?_)<;>first|replace c2:=of_decide_eq_true c2|replace c2:=of_decide_eq_false c2
  · repeat first|(apply gO;first|(apply x1;apply r0;apply r0)|(apply xst;apply r0;(apply ps);apply r0)|(apply xbd;apply r0)|apply w4)|(apply gW;first|apply w6|apply w7|apply wd)|apply w5|apply we|apply wj
    exact rt2c (H' := H) rfl rfl (by apply q0) rfl (by rfl) rfl (by exact .pair (wk_agg rfl) (.refl _)) (by repeat first|exact s0|(apply su1;assumption)) (err 36 (by decide) (by simp [Node.withE, hb, c1, c2]))
  repeat first|(apply x2;apply r0;(with_reducible repeat first|assumption|apply q0|apply q3);apply r0)|(apply x9;apply r0)|apply w6|apply w7
  refine place_c hs ?_
  cases hp : n.place name with
  | some k =>
    rw [show idxI (some k) = (k : Int) from rfl]
    repeat first|(apply gO;first|(apply x1;apply r0;apply r0)|(apply xst;apply r0;(apply ps);apply r0)|(apply xbd;apply r0)|apply w4)|(apply gW;first|apply w6|apply w7|(apply w8;apply r0)|apply wd)|apply w5|apply we|apply wj
    exact rt2c (H' := H) rfl rfl (by apply q0) rfl (by rfl) rfl (by exact .pair (wk_agg rfl) (.refl _)) (by repeat first|exact s0|(apply su1;assumption)) (err 17 (by decide) (by simp only [Node.withE, hb, hp, if_neg (show ¬ ¬ n.kind = 2 from fun h => h c1), if_neg c2]; simp))
  | none =>
    rw [show idxI none = -1 from rfl]
    repeat first|(apply x1;apply r0;apply r0)|(apply x2;apply r0;(with_reducible repeat first|assumption|apply q0|apply q3);apply r0)|apply w4|apply w6|apply w7|(apply w9;apply r0)|apply w5
    refine aw_cond rfl (fun c3 => ?_) (fun c3 => ?_)<;>first|replace c3:=of_decide_eq_true c3|replace c3:=of_decide_eq_false c3
    · have c3' : 8 ≤ n.ents.length := by omega
      repeat first|(apply gO;first|(apply x1;apply r0;apply r0)|(apply xst;apply r0;(apply ps);apply r0)|(apply xbd;apply r0)|apply w4)|(apply gW;first|apply w6|apply w7|apply wd)|apply w5|apply we|apply wj
      exact rt2c (H' := H) rfl rfl (by apply q0) rfl (by rfl) rfl (by exact .pair (wk_agg rfl) (.refl _)) (by repeat first|exact s0|(apply su1;assumption)) (err 28 (by decide) (by simp only [Node.withE, hb, hp, if_neg (show ¬ ¬ n.kind = 2 from fun h => h c1), if_neg c2, if_pos c3']; simp))
    have hE : n.withE name id = 0 := by
      have c3' : ¬ 8 ≤ n.ents.length := by omega
      simp only [Node.withE, hb, hp, if_neg (show ¬ ¬ n.kind = 2 from fun h => h c1), if_neg c2, if_neg c3']; simp
    rw [Node.withN, if_pos hE, hE] at hK
    repeat first|(apply gO;first|(apply x1;apply r0;apply r0)|(apply x2;apply r0;(with_reducible repeat first|assumption|apply q0|apply q3);apply r0)|(apply x9;apply r0))|(apply gW;first|apply w6|apply w7|apply wa)|apply w5|apply wg
    refine indexFunc_c (p := gtB name) hs.2 rfl (fun e K' hK' => with1_c (by with_reducible repeat first|assumption|apply q0|apply q3) hK') ?_
    unfold Node.spot at hK
    cases hx : n.ents.findIdx? (gtB name) with
    | some k =>
      rw [hx, Option.getD_some] at hK
      obtain ⟨hk, _⟩ := List.findIdx?_eq_some_iff_getElem.1 hx
      rw [show idxI (some k) = (k : Int) from rfl]
      repeat first|(apply gO;first|(apply x1;apply r0;apply r0)|(apply x2;apply r0;(with_reducible repeat first|assumption|apply q0|apply q3);apply r0)|(apply xbd;apply r0)|(apply xbs;apply r0)|(apply x9;apply r0)|apply w4)|(apply gW;first|apply w6|apply w7|(apply w9;apply r0)|apply wa)|apply w5
      refine with_c (p := k) (q := k) (more := [⟨name, id⟩]) hs (by omega) (by omega) (Nat.le_refl 1) ?_
      repeat first|(apply x1;apply r0;apply r0)|(apply xst;apply r0;(apply ps);apply r0)|apply w4|apply wd|apply w5
      exact rt2c (H' := H) rfl rfl (by apply q0) rfl (by rfl) rfl (.refl _) (by repeat first|exact s0|(apply su1;assumption)) hK
    | none =>
      rw [hx, Option.getD_none] at hK
      rw [show idxI none = -1 from rfl]
      repeat first|(apply gO;first|(apply x1;apply r0;apply r0)|(apply x2;apply r0;(with_reducible repeat first|assumption|apply q0|apply q3);apply r0)|(apply xbd;apply r0)|(apply xbs;apply r0)|(apply x9;apply r0)|apply w4)|(apply gW;first|apply w6|apply w7|(apply w8;apply r0))|apply w5
      refine with_c (p := (n.ents.map encEnt).length) (q := (n.ents.map encEnt).length) (more := [⟨name, id⟩]) hs (by omega) (by omega) (Nat.le_refl 1) ?_
      rw [ll]
      repeat first|(apply x1;apply r0;apply r0)|(apply xst;apply r0;(apply ps);apply r0)|apply w4|apply wd|apply w5
      exact rt2c (H' := H) rfl rfl (by apply q0) rfl (by rfl) rfl (.refl _) (by repeat first|exact s0|(apply su1;assumption)) hK
end Abs
end Go.Proofs.Ytpifnlodilcgkaa
