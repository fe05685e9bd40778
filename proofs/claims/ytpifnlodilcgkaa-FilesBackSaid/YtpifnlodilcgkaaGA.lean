import Derived.Test.YtpifnlodilcgkaaXQ
import Derived.Test.YtpifnlodilcgkaaW0
set_option linter.unusedVariables false
namespace Go.Proofs.Ytpifnlodilcgkaa
namespace Abs
/-! ### what plant makes: plain part -/
theorem take_name {T : Tab} {c : Cred} {fo : Bool} {s : RSt} {name : ByteArray} {rest : List ByteArray} {r : Found × Int} (h : T.take c fo s name rest = .inr r) : r.1.name.size ≤ 12 := by
  unfold Tab.take at h
  split at h
  · cases h; exact Nat.zero_le _
  split at h
  · cases h; exact Nat.zero_le _
  split at h
  · cases h
  split at h
  · cases h
  split at h
  · cases h; exact Nat.zero_le _
  split at h
  · cases h; exact Nat.zero_le _
  split at h
  · split at h
    · cases h; exact Nat.zero_le _
    · cases h
  split at h
  · cases h; show name.size ≤ 12; omega
  · cases h
theorem walk_name {T : Tab} {c : Cred} {fo : Bool} : ∀ (f : Nat) (s : RSt), (T.walk c fo f s).1.name.size ≤ 12
  | 0, s => Nat.zero_le _
  | f + 1, s => by
    cases hq : s.left with
    | nil => rw [walk_end hq]; exact Nat.zero_le _
    | cons x l =>
      rw [walk_step hq]
      cases ht : T.take c fo s x l with
      | inr r => exact take_name ht
      | inl s' => exact walk_name f s'
theorem resolve_name (T : Tab) (c : Cred) (path : ByteArray) (fo : Bool) : (T.resolve c path fo).1.name.size ≤ 12 := by
  unfold Tab.resolve
  split
  · exact walk_name _ _
  · exact Nat.zero_le _
def sgid (m : Int) : Prop := ¬ bitsR .and .i64 m 1024 = 0
instance (m : Int) : Decidable (sgid m) := inferInstanceAs (Decidable (¬ _))
/-- A node that is made in a directory. -/
def madeIn (c : Cred) (d n : Node) : Node := { n with uid := c.uid, gid := if sgid d.mode then d.gid else c.gid }
def Tab.dropE (T : Tab) (i : Int) : Tab × Bool := if T.has i = true then (T.put (i - 1).toNat Node.zero, true) else (T, false)
def Tab.plant (T : Tab) (c : Cred) (r : Found × Int) (mk : Node → Node) : Tab × Int × Int :=
  if ¬ r.2 = 0 then (T, 0, r.2) else if ¬ r.1.node = 0 then (T, 0, 17) else if T.can c r.1.dir 3 = false then (T, 0, 13)
  else if 8 ≤ ((T.at r.1.dir).ents.length : Int) then (T, 0, 28) else if T.used = T.room then (T, 0, 28)
  else if ¬ (T.add (madeIn c (T.at r.1.dir) (mk (T.at r.1.dir)))).2.2 = 0 then ((T.add (madeIn c (T.at r.1.dir) (mk (T.at r.1.dir)))).1, 0, (T.add (madeIn c (T.at r.1.dir) (mk (T.at r.1.dir)))).2.2)
  else if ¬ (T.at r.1.dir).withE r.1.name (T.add (madeIn c (T.at r.1.dir) (mk (T.at r.1.dir)))).2.1 = 0 then
    (((T.add (madeIn c (T.at r.1.dir) (mk (T.at r.1.dir)))).1.dropE (T.add (madeIn c (T.at r.1.dir) (mk (T.at r.1.dir)))).2.1).1, 0, (T.at r.1.dir).withE r.1.name (T.add (madeIn c (T.at r.1.dir) (mk (T.at r.1.dir)))).2.1)
  else (((T.add (madeIn c (T.at r.1.dir) (mk (T.at r.1.dir)))).1.putE r.1.dir ((T.at r.1.dir).withN r.1.name (T.add (madeIn c (T.at r.1.dir) (mk (T.at r.1.dir)))).2.1)).1, (T.add (madeIn c (T.at r.1.dir) (mk (T.at r.1.dir)))).2.1,
    ((T.add (madeIn c (T.at r.1.dir) (mk (T.at r.1.dir)))).1.putE r.1.dir ((T.at r.1.dir).withN r.1.name (T.add (madeIn c (T.at r.1.dir) (mk (T.at r.1.dir)))).2.1)).2)
theorem good_dropE {T : Tab} (h : T.good) (i : Int) : (T.dropE i).1.good := by
  unfold Tab.dropE
  split
  · exact put_good h (.inl rfl) _
  · exact h
theorem plant_good {T : Tab} (h : T.good) (c : Cred) (r : Found × Int) (mk : Node → Node) : (T.plant c r mk).1.good := by
  unfold Tab.plant
  split
  · exact h
  split
  · exact h
  split
  · exact h
  split
  · exact h
  split
  · exact h
  have ha := good_add h (madeIn c (T.at r.1.dir) (mk (T.at r.1.dir)))
  split
  · exact ha
  split
  · exact good_dropE ha _
  · exact good_putE ha _ _
def orTo (l : List Int) : Nat → Int
  | 0 => 0
  | k + 1 => bitsR .or .i64 (orTo l k) (l.getD k 0)
def fileN (mode umask : Int) : Node := ⟨1, bitsR .andNot .i64 (mode % 512) umask, 0, 0, ⟨#[]⟩, [], ⟨#[]⟩⟩
end Abs
end Go.Proofs.Ytpifnlodilcgkaa

set_option linter.unusedVariables false
namespace Go.Proofs.Ytpifnlodilcgkaa
namespace Abs
set_option linter.unusedSimpArgs false
set_option maxRecDepth 10000
set_option maxHeartbeats 2000000
attribute [local irreducible] AOps AW AP ACalls thenQ inBlk noGoto

/-! ### package plant -/
theorem drop2_c {t : Nat} {T : Tab} (hw : T.wf) {i : Int} {H : AHeap} (hT : H t = some (.cells (encTab T))) {K : AVal → AHeap → Prop}
    (hK : K (.b (T.dropE i).2) (H.put t (.cells (encTab (T.dropE i).1)))) : ACalls Try.prog 106 [.ptr t 0, .i i] H K := by
  unfold Tab.dropE at hK
  refine drop_c hw hT ?_
  split
  · rename_i h
    rw [if_pos h] at hK; exact hK
  · rename_i h
    rw [if_neg h, put_id' hT] at hK; exact hK
theorem bits_c {mode : Int} {l : List Int} {o : Own} (hl : l.length ≤ 1073741824) {H : AHeap} {K : AVal → AHeap → Prop} (hK : K (.i (bitsR .and .i64 mode (orTo l l.length))) H) : ACalls Try.prog 81 [.i mode, .sl (encInts l) o] H K := by
  refine acalls_body Try.func81 rfl rfl rfl ?_
  have ll := ints_len l
  repeat first|(apply x1;apply r0;apply r0)|apply w4|apply w6|apply w7|apply wb|apply w5
  refine aw_loop (fun k : Nat => k ≤ l.length) (fun k => [(0, .i mode), (5, .i (orTo l k)), (8, .sl (encInts l) o), (9, .i (encInts l).length), (10, .i k)]) (fun _ => H) (fun k => l.length - k) 0 (Nat.zero_le _) (by repeat (first | exact Fr.sub_nil _ | refine Fr.sub_cons rfl ?_)) (AHeap.sub_refl _) ?_
  intro k hk
  repeat first|(apply x1;apply r0;apply r0)|apply w4|apply w6|apply w7|apply w5
  refine aw_cond rfl (fun c => ?_) (fun c => ?_)<;>first|replace c:=of_decide_eq_true c|replace c:=of_decide_eq_false c
  · have c' : k < l.length := by omega
    repeat first|apply w6|apply w7|apply wa|apply wb|apply w5
    refine s_index tk rfl rfl rfl rfl (by omega) (map_get rfl c') rfl ?_
    repeat first|(apply x1;apply r0;apply r0)|(apply x3;apply r0)|apply w4|apply w7|apply w5
    refine s_bits rfl rfl rfl rfl ?_
    rw [show bitsR .or .i64 (orTo l k) l[k] = orTo l (k + 1) by simp [orTo, c']]
    repeat first|(apply x1;apply r0;apply r0)|apply w4|(apply x6;apply r0;omega)|apply w7|apply w5|apply wg
    exact ⟨k + 1, c', by omega, (by repeat (first | exact Fr.sub_nil _ | refine Fr.sub_cons rfl ?_)), AHeap.sub_refl _⟩
  · have hke : k = l.length := by omega
    subst hke
    repeat first|(apply x1;apply r0;apply r0)|apply w6|apply w7|apply wc|apply w5|apply wf|apply wh
    refine s_bits rfl rfl rfl rfl ?_
    repeat first|(apply x1;apply r0;apply r0)|apply w4|apply wd|apply w5
    exact rt1 (H' := H) rfl rfl (.refl _) s0 hK
theorem create1_c {n : Node} {mode umask : Int} {bm bu : Nat} {H : AHeap} {K : AVal → AHeap → Prop} (hm : Rd H bm [.i mode]) (hu : Rd H bu [.i umask]) (hK : K (.agg (encNode (fileN mode umask))) H) : ACalls Try.prog 80 [.agg (encNode n), .ptr bm 0, .ptr bu 0] H K := by
  refine acalls_body Try.func80 rfl rfl rfl ?_
  repeat first|apply w6|apply w7
  refine s_box rfl rfl rfl (fun b3 hb3 => ?_); have hb := hb3; (try simp only [put_none_iff, prot_none_iff] at hb); (repeat obtain ⟨_, _, hb⟩ := hb)
  skip
  refine s_alloc tk rfl rfl rfl (fun b4 hb4 => ?_); have hb := hb4; (try simp only [put_none_iff, prot_none_iff] at hb); (repeat obtain ⟨_, _, hb⟩ := hb)
  repeat first|apply w4|apply w6|apply w5
  refine aw_prot [bm, bu] (allc (by with_reducible repeat first|assumption|apply q3|exact n1 ‹_› ‹_›) (allc (by with_reducible repeat first|assumption|apply q3|exact n1 ‹_› ‹_›) (allc0 _))) ?_
  refine aw_plan mixed (.take 0 (.take 3 (.one 1 (.one 2 (.take 4 (.one 5 (.one 6 .done))))))) (by kernel_rfl) ?_
  repeat first|(apply xbs;apply r0)|(apply x9;apply r0)|apply w4|(apply y4;apply r0)|(apply y2;apply r0;apply r0;(with_reducible repeat first|assumption|apply pg|apply q3|exact n1 ‹_› ‹_›|exact mm0|apply mm1);apply r0)
  refine bits_c (l := [511]) (by decide) ?_
  rw [show bitsR .and .i64 mode (orTo [511] ([511] : List Int).length) = mode % 512 from and511 mode]
  repeat apply w4
  refine d_bits rfl rfl rfl rfl rfl rfl ?_
  repeat first|(apply xst;apply r0;(with_reducible repeat first|apply ps|apply gq|exact n3 ‹_› ‹_›|apply nm1|exact nm0);apply r0)|(apply xbd;apply r0)|apply w4|apply y0|(apply y4;apply r0)
  refine prot_done_put (by simp only [List.mem_cons,List.not_mem_nil,or_false,not_or]; first|exact (by first|assumption|exact n1 ‹_› ‹_›|exact n2 ‹_› ‹_›|exact n3 ‹_› ‹_›|exact n4 ‹_› ‹_›)|exact ⟨(by first|assumption|exact n1 ‹_› ‹_›|exact n2 ‹_› ‹_›|exact n3 ‹_› ‹_›|exact n4 ‹_› ‹_›),(by first|assumption|exact n1 ‹_› ‹_›|exact n2 ‹_› ‹_›|exact n3 ‹_› ‹_›|exact n4 ‹_› ‹_›)⟩|exact ⟨(by first|assumption|exact n1 ‹_› ‹_›|exact n2 ‹_› ‹_›|exact n3 ‹_› ‹_›|exact n4 ‹_› ‹_›),(by first|assumption|exact n1 ‹_› ‹_›|exact n2 ‹_› ‹_›|exact n3 ‹_› ‹_›|exact n4 ‹_› ‹_›),(by first|assumption|exact n1 ‹_› ‹_›|exact n2 ‹_› ‹_›|exact n3 ‹_› ‹_›|exact n4 ‹_› ‹_›)⟩) ?_
  repeat first|apply wd|apply w5
  exact rt1c (H' := H) rfl rfl (by apply q0) rfl (by rfl) (by exact wk_agg rfl) (by repeat first|exact s0|(apply su1;assumption)) hK
theorem plant_c {t : Nat} {T : Tab} (hg : T.good) {c : Cred} (hc : c.small) {path : ByteArray} {fo : Bool} {f : FuncId} {cs : List AVal} {mk : Node → Node} {H : AHeap} (hT : H t = some (.cells (encTab T))) (hf : hasN bods f = true)
    (hmk : ∀ (X : AHeap) (n : Node) (K' : AVal → AHeap → Prop), (∀ b o, H b = some o → X b = some o) → K' (.agg (encNode (mk n))) X → ACalls Try.prog f ([] ++ [.agg (encNode n)] ++ cs) X K') (hms : ∀ n, (mk n).small)
    {K : AVal → AHeap → Prop} (hK : K (.tup [.i (T.plant c (T.resolve c path fo) mk).2.1, .i (T.plant c (T.resolve c path fo) mk).2.2]) (H.put t (.cells (encTab (T.plant c (T.resolve c path fo) mk).1)))) :
    ACalls Try.prog 79 [.ptr t 0, .agg (encCred c), .s path, .b fo, .clo f [] cs] H K := by
  refine acalls_body Try.func79 rfl rfl rfl ?_
  have hw := hg.wf
  have hrn := resolve_name T c path fo
  repeat first|apply w6|apply w7
  refine s_box rfl rfl rfl (fun b6 hb6 => ?_); have hb := hb6; (try simp only [put_none_iff, prot_none_iff] at hb); (repeat obtain ⟨_, _, hb⟩ := hb)
  repeat first|(apply x1;apply r0;apply r0)|(apply x2;apply r0;(apply q0);apply r0)|(apply x9;apply r0)|apply w4|apply w6|apply w7|apply w5
  refine resolve_c hg hc (by with_reducible repeat first|exact q1 ‹_›|apply q3|exact n2 ‹_› ‹_›) ?_
  generalize T.resolve c path fo = r at hK hrn ⊢
  unfold Tab.plant at hK
  repeat (apply x1;apply r0;apply r0)
  refine s_alloc tk rfl rfl rfl (fun b12 hb12 => ?_); have hb := hb12; (try simp only [put_none_iff, prot_none_iff] at hb); (repeat obtain ⟨_, _, hb⟩ := hb)
  (apply xst;apply r0;(apply ps);apply r0)
  rw [put_put]
  repeat first|(apply x1;apply r0;apply r0)|apply w4|apply w6|apply w7|apply wb|apply w5
  refine aw_cond rfl (fun g1 => ?_) (fun g1 => ?_)<;>first|replace g1:=not_t g1|replace g1:=not_f g1
  · rw [if_pos g1, put_id hT] at hK
    repeat first|(apply gO;first|(apply x1;apply r0;apply r0)|apply w4)|(apply gW;first|apply w6|apply w7|apply wd)|apply w5|apply we|apply wj
    exact rt2 (H' := H) rfl rfl rfl (.refl _) (by repeat first|exact s0|(apply su1;assumption)) hK
  have g1' : r.2 = 0 := g1
  rw [if_neg (fun q => q g1')] at hK
  repeat first|(apply x1;apply r0;apply r0)|(apply x2;apply r0;(apply q0);apply r0)|apply w4|apply w6|apply w7|apply w5
  refine aw_cond rfl (fun g2 => ?_) (fun g2 => ?_)<;>first|replace g2:=not_t g2|replace g2:=not_f g2
  · rw [if_pos g2, put_id hT] at hK
    repeat first|(apply gO;first|(apply x1;apply r0;apply r0)|apply w4)|(apply gW;first|apply w6|apply w7|apply wd)|apply w5|apply we|apply wj
    exact rt2 (H' := H) rfl rfl rfl (.refl _) (by repeat first|exact s0|(apply su1;assumption)) hK
  have g2' : r.1.node = 0 := g2
  rw [if_neg (fun q => q g2')] at hK
  repeat first|(apply x1;apply r0;apply r0)|(apply x2;apply r0;(with_reducible repeat first|assumption|apply q0|apply q3);apply r0)|(apply x9;apply r0)|apply w6|apply w7
  refine can1_c hw hc (by with_reducible repeat first|exact q1 ‹_›|apply q3|exact n2 ‹_› ‹_›) ?_
  cases hcan : T.can c r.1.dir 3 with
  | false =>
    rw [hcan, if_pos rfl, put_id hT] at hK
    repeat first|(apply gO;first|(apply x1;apply r0;apply r0)|apply w4)|(apply gW;first|apply w6|apply w7|(apply w8;apply r0)|apply wd)|apply w5|apply we|apply wj
    exact rt2 (H' := H) rfl rfl rfl (.refl _) (by repeat first|exact s0|(apply su1;assumption)) hK
  | true =>
    rw [hcan, if_neg (by decide)] at hK
    repeat first|(apply gO;first|(apply x1;apply r0;apply r0)|(apply x2;apply r0;(apply q0);apply r0)|(apply x9;apply r0)|apply w4)|(apply gW;first|apply w6|apply w7|(apply w9;apply r0)|apply wa)|apply w5|apply wg
    refine tget_c hw (by with_reducible repeat first|exact q1 ‹_›|apply q3|exact n2 ‹_› ‹_›) ?_
    have hd := at_few hg r.1.dir
    generalize T.at r.1.dir = d at hK hd ⊢
    repeat (apply x1;apply r0;apply r0)
    refine s_alloc tk rfl rfl rfl (fun b14 hb14 => ?_); have hb := hb14; (try simp only [put_none_iff, prot_none_iff] at hb); (repeat obtain ⟨_, _, hb⟩ := hb)
    (apply xst;apply r0;(apply ps);apply r0)
    rw [put_put]
    repeat first|(apply x1;apply r0;apply r0)|(apply x2;apply r0;(apply q0);apply r0)|apply w4|apply w6|apply w7|apply w5
    refine s_clo rfl rfl rfl (fkall hf) ?_
    refine hmk _ _ _ (fun b o hq => (by with_reducible repeat first|assumption|apply gp|exact n2 ‹_› ‹_›)) ?_
    have hsm0 := hms d
    generalize mk d = m0 at hK hsm0 ⊢
    skip
    refine s_alloc tk rfl rfl rfl (fun b16 hb16 => ?_); have hb := hb16; (try simp only [put_none_iff, prot_none_iff] at hb); (repeat obtain ⟨_, _, hb⟩ := hb)
    (apply xst;apply r0;(apply ps);apply r0)
    rw [put_put]
    repeat first|apply w4|apply w6|apply w5
    refine aw_prot [b6] (allc (by with_reducible repeat first|assumption|apply q0|apply q3) (allc0 _)) ?_
    refine aw_plan mixed (.take 0 (.take 1 (.take 2 (.take 3 (.take 4 (.one 5 (.take 6 (.one 7 .done)))))))) (by kernel_rfl) ?_
    repeat first|(apply xst;apply r0;(with_reducible repeat first|assumption|apply q0|apply ps|apply pg|apply q3|apply gq|apply nm1|exact nm0|exact mm0);apply r0)|apply w4|(apply y1;apply r0;apply r0)|apply y0|(apply y4;apply r0)|(apply y2;apply r0;apply r0;(with_reducible repeat first|assumption|apply q0|apply ps|apply pg|apply q3|apply gq|apply nm1|exact nm0|exact mm0);apply r0)
    simp only [put_put]
    refine prot_done_put (by simp only [List.mem_cons,List.not_mem_nil,or_false,not_or]; first|exact (by first|assumption|exact n1 ‹_› ‹_›|exact n2 ‹_› ‹_›|exact n3 ‹_› ‹_›|exact n4 ‹_› ‹_›)|exact ⟨(by first|assumption|exact n1 ‹_› ‹_›|exact n2 ‹_› ‹_›|exact n3 ‹_› ‹_›|exact n4 ‹_› ‹_›),(by first|assumption|exact n1 ‹_› ‹_›|exact n2 ‹_› ‹_›|exact n3 ‹_› ‹_›|exact n4 ‹_› ‹_›)⟩|exact ⟨(by first|assumption|exact n1 ‹_› ‹_›|exact n2 ‹_› ‹_›|exact n3 ‹_› ‹_›|exact n4 ‹_› ‹_›),(by first|assumption|exact n1 ‹_› ‹_›|exact n2 ‹_› ‹_›|exact n3 ‹_› ‹_›|exact n4 ‹_› ‹_›),(by first|assumption|exact n1 ‹_› ‹_›|exact n2 ‹_› ‹_›|exact n3 ‹_› ‹_›|exact n4 ‹_› ‹_›)⟩) ?_
    repeat first|(apply x1;apply r0;apply r0)|(apply x2;apply r0;(with_reducible repeat first|assumption|apply q0|apply q3);apply r0)|apply w6|apply w7|apply w5
    refine s_bits rfl rfl rfl rfl ?_
    repeat first|(apply x1;apply r0;apply r0)|apply w4|apply w5
    refine aw_cond rfl (fun g3 => ?_) (fun g3 => ?_)<;>first|replace g3:=not_t g3|replace g3:=not_f g3
    · have hsg : (if sgid d.mode then d.gid else c.gid) = d.gid := if_pos g3
      have hsm : ({ m0 with uid := c.uid, gid := d.gid } : Node).small := hsm0
      repeat first|(apply x1;apply r0;apply r0)|(apply x2;apply r0;(with_reducible repeat first|assumption|apply q0|apply ps|apply q3);apply r0)|(apply xst;apply r0;(with_reducible repeat first|assumption|apply q0|apply ps|apply q3);apply r0)|apply w4|apply w6|apply w7|apply w5
      refine s_gsplit rfl rfl (fun g4 => ?_) (fun g4 => ?_)<;>first|replace g4:=of_decide_eq_true g4|replace g4:=of_decide_eq_false g4
      · rw [ents_len] at g4
        rw [if_pos g4, put_id hT] at hK
        repeat first|(apply gO;first|(apply x1;apply r0;apply r0)|apply w4|(apply w3;apply r0;apply r0))|(apply gW;first|apply w6|apply w7|(apply w8;apply r0)|apply wd)|apply w5|apply we
        exact rt2 (H' := H) rfl rfl rfl (.refl _) (by repeat first|exact s0|(apply su1;assumption)) hK
      rw [ents_len] at g4
      rw [if_neg g4] at hK
      repeat first|(apply x1;apply r0;apply r0)|(apply x5;apply r0)|(apply x9;apply r0)
      refine used_c hw (by with_reducible repeat first|exact q1 ‹_›|apply q3|exact n2 ‹_› ‹_›) ?_
      repeat first|(apply x1;apply r0;apply r0)|(apply x5;apply r0)|(apply x9;apply r0)
      refine room_c (by with_reducible repeat first|exact q1 ‹_›|apply q3|exact n2 ‹_› ‹_›) ?_
      repeat first|(apply x1;apply r0;apply r0)|(apply x5;apply r0)|apply w4|apply w5
      refine aw_cond rfl (fun g5 => ?_) (fun g5 => ?_)<;>first|replace g5:=of_decide_eq_true g5|replace g5:=of_decide_eq_false g5
      · rw [if_pos g5, put_id hT] at hK
        repeat first|(apply x1;apply r0;apply r0)|apply w4|apply w6|apply w7|apply wd|apply w5|apply we
        exact rt2 (H' := H) rfl rfl rfl (.refl _) (by repeat first|exact s0|(apply su1;assumption)) hK
      rw [if_neg g5] at hK
      repeat first|(apply x1;apply r0;apply r0)|(apply x2;apply r0;(apply q0);apply r0)|(apply x9;apply r0)|apply w6|apply w7|apply wa|apply w5
      refine add2_c hw (n := { m0 with uid := c.uid, gid := d.gid }) hsm (by with_reducible repeat first|assumption|apply gp|exact n2 ‹_› ‹_›) ?_
      rw [show T.add { m0 with uid := c.uid, gid := d.gid } = T.add (madeIn c d m0) by unfold madeIn; rw [hsg]] at *
      have hga := good_add hg (madeIn c d m0)
      generalize T.add (madeIn c d m0) = A at hK hga ⊢
      repeat first|(apply x1;apply r0;apply r0)|apply w4|apply w6|apply w7|apply w5
      refine aw_cond rfl (fun g6 => ?_) (fun g6 => ?_)<;>first|replace g6:=not_t g6|replace g6:=not_f g6
      · rw [if_pos g6] at hK
        repeat first|(apply x1;apply r0;apply r0)|apply w4|apply w6|apply w7|apply wd|apply w5|apply we
        exact rt2 (H' := H.put t (.cells (encTab A.1))) rfl rfl rfl (.refl _) (by repeat first|exact s1|(apply su2;assumption)|apply put_sub') hK
      have g6' : A.2.2 = 0 := g6
      rw [if_neg (fun q => q g6')] at hK
      repeat first|(apply x1;apply r0;apply r0)|(apply x2;apply r0;(with_reducible repeat first|assumption|apply q0|apply q3|exact n4 ‹_› ‹_›);apply r0)|(apply x9;apply r0)|apply w6|apply w7|apply wa|apply w5
      refine nwith_c hd.small (by omega) ?_
      have hws := withN_sizes hd (name := r.1.name) (by omega) A.2.1
      generalize d.withE r.1.name A.2.1 = zwe at hK ⊢
      generalize d.withN r.1.name A.2.1 = zwn at hK hws ⊢
      repeat first|(apply x1;apply r0;apply r0)|(apply xst;apply r0;(with_reducible repeat first|assumption|apply ps|apply gp|exact n4 ‹_› ‹_›);apply r0)|apply w4|apply w6|apply w7|apply w5
      refine aw_cond rfl (fun g7 => ?_) (fun g7 => ?_)<;>first|replace g7:=not_t g7|replace g7:=not_f g7
      · rw [if_pos g7] at hK
        repeat first|(apply x1;apply r0;apply r0)|(apply x9;apply r0)|apply w6|apply w7
        refine drop2_c hga.wf (by with_reducible repeat first|apply ps|apply gp|exact n2 ‹_› ‹_›) ?_
        repeat first|(apply x1;apply r0;apply r0)|apply w4|apply w6|apply w7|apply wd|apply w5|apply we
        exact rt2 (H' := H.put t (.cells (encTab (A.1.dropE A.2.1).1))) rfl rfl rfl (.refl _) (by repeat first|exact s1|(apply su2;assumption)|apply put_sub'|apply del_sub1) hK
      have g7' : zwe = 0 := g7
      rw [if_neg (fun q => q g7')] at hK
      repeat first|(apply x1;apply r0;apply r0)|(apply x2;apply r0;(with_reducible repeat first|assumption|apply q0|apply q3|exact n4 ‹_› ‹_›);apply r0)|(apply x9;apply r0)|apply w6|apply w7|apply wa|apply w5
      refine put2_c hga.wf (n := zwn) hws.1 (by with_reducible repeat first|apply ps|apply gp|exact n2 ‹_› ‹_›) ?_
      repeat first|(apply x1;apply r0;apply r0)|apply w4|apply wd|apply w5
      exact rt2 (H' := H.put t (.cells (encTab (A.1.putE r.1.dir zwn).1))) rfl rfl rfl (.refl _) (by repeat first|exact s1|(apply su2;assumption)|apply put_sub'|apply del_sub1) hK
    · have hsg : (if sgid d.mode then d.gid else c.gid) = c.gid := if_neg (fun q => q g3)
      have hsm : ({ m0 with uid := c.uid, gid := c.gid } : Node).small := hsm0
      repeat first|(apply x1;apply r0;apply r0)|(apply x2;apply r0;(with_reducible repeat first|assumption|apply q0|apply q3);apply r0)|apply w6|apply w7|apply wa|apply w5
      refine s_gsplit rfl rfl (fun g4 => ?_) (fun g4 => ?_)<;>first|replace g4:=of_decide_eq_true g4|replace g4:=of_decide_eq_false g4
      · rw [ents_len] at g4
        rw [if_pos g4, put_id hT] at hK
        repeat first|(apply gO;first|(apply x1;apply r0;apply r0)|apply w4|(apply w3;apply r0;apply r0))|(apply gW;first|apply w6|apply w7|(apply w8;apply r0)|apply wd)|apply w5|apply we
        exact rt2 (H' := H) rfl rfl rfl (.refl _) (by repeat first|exact s0|(apply su1;assumption)) hK
      rw [ents_len] at g4
      rw [if_neg g4] at hK
      repeat first|(apply x1;apply r0;apply r0)|(apply x5;apply r0)|(apply x9;apply r0)
      refine used_c hw (by with_reducible repeat first|exact q1 ‹_›|apply q3|exact n2 ‹_› ‹_›) ?_
      repeat first|(apply x1;apply r0;apply r0)|(apply x5;apply r0)|(apply x9;apply r0)
      refine room_c (by with_reducible repeat first|exact q1 ‹_›|apply q3|exact n2 ‹_› ‹_›) ?_
      repeat first|(apply x1;apply r0;apply r0)|(apply x5;apply r0)|apply w4|apply w5
      refine aw_cond rfl (fun g5 => ?_) (fun g5 => ?_)<;>first|replace g5:=of_decide_eq_true g5|replace g5:=of_decide_eq_false g5
      · rw [if_pos g5, put_id hT] at hK
        repeat first|(apply x1;apply r0;apply r0)|apply w4|apply w6|apply w7|apply wd|apply w5|apply we
        exact rt2 (H' := H) rfl rfl rfl (.refl _) (by repeat first|exact s0|(apply su1;assumption)) hK
      rw [if_neg g5] at hK
      repeat first|(apply x1;apply r0;apply r0)|(apply x2;apply r0;(apply q0);apply r0)|(apply x9;apply r0)|apply w6|apply w7|apply wa|apply w5
      refine add2_c hw (n := { m0 with uid := c.uid, gid := c.gid }) hsm (by with_reducible repeat first|assumption|apply gp|exact n2 ‹_› ‹_›) ?_
      rw [show T.add { m0 with uid := c.uid, gid := c.gid } = T.add (madeIn c d m0) by unfold madeIn; rw [hsg]] at *
      have hga := good_add hg (madeIn c d m0)
      generalize T.add (madeIn c d m0) = A at hK hga ⊢
      repeat first|(apply x1;apply r0;apply r0)|apply w4|apply w6|apply w7|apply w5
      refine aw_cond rfl (fun g6 => ?_) (fun g6 => ?_)<;>first|replace g6:=not_t g6|replace g6:=not_f g6
      · rw [if_pos g6] at hK
        repeat first|(apply x1;apply r0;apply r0)|apply w4|apply w6|apply w7|apply wd|apply w5|apply we
        exact rt2 (H' := H.put t (.cells (encTab A.1))) rfl rfl rfl (.refl _) (by repeat first|exact s1|(apply su2;assumption)|apply put_sub') hK
      have g6' : A.2.2 = 0 := g6
      rw [if_neg (fun q => q g6')] at hK
      repeat first|(apply x1;apply r0;apply r0)|(apply x2;apply r0;(with_reducible repeat first|assumption|apply q0|apply q3|exact n4 ‹_› ‹_›);apply r0)|(apply x9;apply r0)|apply w6|apply w7|apply wa|apply w5
      refine nwith_c hd.small (by omega) ?_
      have hws := withN_sizes hd (name := r.1.name) (by omega) A.2.1
      generalize d.withE r.1.name A.2.1 = zwe at hK ⊢
      generalize d.withN r.1.name A.2.1 = zwn at hK hws ⊢
      repeat first|(apply x1;apply r0;apply r0)|(apply xst;apply r0;(with_reducible repeat first|assumption|apply ps|apply gp|exact n4 ‹_› ‹_›);apply r0)|apply w4|apply w6|apply w7|apply w5
      refine aw_cond rfl (fun g7 => ?_) (fun g7 => ?_)<;>first|replace g7:=not_t g7|replace g7:=not_f g7
      · rw [if_pos g7] at hK
        repeat first|(apply x1;apply r0;apply r0)|(apply x9;apply r0)|apply w6|apply w7
        refine drop2_c hga.wf (by with_reducible repeat first|apply ps|apply gp|exact n2 ‹_› ‹_›) ?_
        repeat first|(apply x1;apply r0;apply r0)|apply w4|apply w6|apply w7|apply wd|apply w5|apply we
        exact rt2 (H' := H.put t (.cells (encTab (A.1.dropE A.2.1).1))) rfl rfl rfl (.refl _) (by repeat first|exact s1|(apply su2;assumption)|apply put_sub'|apply del_sub1) hK
      have g7' : zwe = 0 := g7
      rw [if_neg (fun q => q g7')] at hK
      repeat first|(apply x1;apply r0;apply r0)|(apply x2;apply r0;(with_reducible repeat first|assumption|apply q0|apply q3|exact n4 ‹_› ‹_›);apply r0)|(apply x9;apply r0)|apply w6|apply w7|apply wa|apply w5
      refine put2_c hga.wf (n := zwn) hws.1 (by with_reducible repeat first|apply ps|apply gp|exact n2 ‹_› ‹_›) ?_
      repeat first|(apply x1;apply r0;apply r0)|apply w4|apply wd|apply w5
      exact rt2 (H' := H.put t (.cells (encTab (A.1.putE r.1.dir zwn).1))) rfl rfl rfl (.refl _) (by repeat first|exact s1|(apply su2;assumption)|apply put_sub'|apply del_sub1) hK
theorem create_c {t : Nat} {T : Tab} (hg : T.good) {c : Cred} (hc : c.small) {umask mode : Int} {path : ByteArray} {fo : Bool} {H : AHeap} (hT : H t = some (.cells (encTab T)))
    {K : AVal → AHeap → Prop} (hK : K (.tup [.i (T.plant c (T.resolve c path fo) (fun _ => fileN mode umask)).2.1, .i (T.plant c (T.resolve c path fo) (fun _ => fileN mode umask)).2.2]) (H.put t (.cells (encTab (T.plant c (T.resolve c path fo) (fun _ => fileN mode umask)).1)))) :
    ACalls Try.prog 41 [.ptr t 0, .agg (encCred c), .i umask, .s path, .i mode, .b fo] H K := by
  refine acalls_body Try.func41 rfl rfl rfl ?_
  repeat first|apply w6|apply w7
  refine s_box rfl rfl rfl (fun b7 hb7 => ?_); have hb := hb7; (try simp only [put_none_iff, prot_none_iff] at hb); (repeat obtain ⟨_, _, hb⟩ := hb)
  skip
  refine s_box rfl rfl rfl (fun b8 hb8 => ?_); have hb := hb8; (try simp only [put_none_iff, prot_none_iff] at hb); (repeat obtain ⟨_, _, hb⟩ := hb)
  skip
  refine s_box rfl rfl rfl (fun b10 hb10 => ?_); have hb := hb10; (try simp only [put_none_iff, prot_none_iff] at hb); (repeat obtain ⟨_, _, hb⟩ := hb)
  repeat first|(apply x1;apply r0;apply r0)|(apply x2;apply r0;(with_reducible repeat first|assumption|apply q0|apply q3);apply r0)|(apply x9;apply r0)|apply w4|apply w6|apply w7|apply w5
  refine plant_c (mk := fun _ => fileN mode umask) hg hc (by with_reducible repeat first|assumption|apply gp|exact n2 ‹_› ‹_›) rfl (fun X n K' hX hK' => create1_c (.inl (hX _ _ (by apply ps))) (.inl (hX _ _ (by with_reducible repeat first|assumption|apply ps|apply gp))) hK') (fun n => ⟨Nat.zero_le _, Nat.zero_le _⟩) ?_
  generalize T.plant c (T.resolve c path fo) (fun _ => fileN mode umask) = R at hK ⊢
  repeat first|(apply x1;apply r0;apply r0)|apply w4|apply wd|apply w5
  exact rt2 (H' := H.put t (.cells (encTab R.1))) rfl rfl rfl (.refl _) (by repeat first|exact s1|(apply su2;assumption)|apply put_sub') hK
end Abs
end Go.Proofs.Ytpifnlodilcgkaa
