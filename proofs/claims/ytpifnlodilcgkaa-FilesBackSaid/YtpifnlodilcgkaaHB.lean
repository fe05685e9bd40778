import Derived.Test.YtpifnlodilcgkaaHA
set_option linter.unusedVariables false
namespace Go.Proofs.Ytpifnlodilcgkaa
namespace Abs
/-! ### files: plain part -/
def hasF (flags f : Int) : Bool := !decide (bitsR .and .i64 flags f = 0)
def fl2 (flags : Int) : Bool := if hasF flags 8 = true then hasF flags 4 else true
def flagsOk (flags : Int) : Bool := if 0 ≤ flags then if flags ≤ 63 then if hasF flags 3 = true then (if hasF flags 16 = true then (if hasF flags 2 = true then fl2 flags else false) else fl2 flags) else false else false else false
def wantF (flags : Int) : Int := if hasF flags 2 = true then (if hasF flags 1 = true then 6 else 2) else (if hasF flags 1 = true then 4 else 0)
def wrote (c : Cred) (n : Node) (d : ByteArray) : Node := { n with data := d, mode := c.written n.kind n.mode }
def Tab.openF (T : Tab) (c : Cred) (umask : Int) (r : Found × Int) (flags mode : Int) : Tab × Int × Int :=
  if flagsOk flags = false then (T, 0, 22) else if ¬ r.2 = 0 then (T, 0, r.2)
  else if T.has r.1.node = false then (if hasF flags 4 = false then (T, 0, 2) else T.plant c r (fun _ => fileN mode umask))
  else if hasF flags 8 = true then (T, 0, 17) else if (T.at r.1.node).kind = 3 then (T, 0, 40) else if (T.at r.1.node).kind = 2 then (T, 0, 21)
  else if T.can c r.1.node (wantF flags) = false then (T, 0, 13)
  else if hasF flags 16 = true then ((T.putE r.1.node (wrote c (T.at r.1.node) ⟨#[]⟩)).1, r.1.node, 0) else (T, r.1.node, 0)
def readB (d : ByteArray) (off n : Int) : ByteArray := ofL (((byL d).drop (min off d.size).toNat).take (min n (((byL d).drop (min off d.size).toNat).length : Int)).toNat)
def Tab.readF (T : Tab) (i off n : Int) : ByteArray × Int := if ¬ (T.at i).kind = 1 then (⟨#[]⟩, 9) else if off < 0 then (⟨#[]⟩, 22) else if n < 0 then (⟨#[]⟩, 22) else (readB (T.at i).data off n, 0)
theorem wk5 {a b c d e e' : AVal} (h : Wk e e') : Wk (.tup [a, b, c, d, e]) (.tup [a, b, c, d, e']) := .tup rfl (fun j h1 h2 => match j with | 0 => .refl _ | 1 => .refl _ | 2 => .refl _ | 3 => .refl _ | 4 => h)
theorem encB_ofL (l : List UInt8) : encBytes (ofL l) = l.map fun c => [.sc (.int .u8 c.toNat)] := by
  show (byL (ofL l)).map _ = _
  rw [byL_ofL]
theorem encB_byL (s : ByteArray) : encBytes s = (byL s).map fun c => [.sc (.int .u8 c.toNat)] := rfl
theorem good_openF {T : Tab} (h : T.good) (c : Cred) (umask : Int) (r : Found × Int) (flags mode : Int) : (T.openF c umask r flags mode).1.good := by
  unfold Tab.openF
  split
  · exact h
  split
  · exact h
  split
  · split
    · exact h
    · exact plant_good h _ _ _
  split
  · exact h
  split
  · exact h
  split
  · exact h
  split
  · exact h
  split
  · exact good_putE h _ _
  · exact h
end Abs
end Go.Proofs.Ytpifnlodilcgkaa

set_option linter.unusedVariables false
namespace Go.Proofs.Ytpifnlodilcgkaa
namespace Abs
set_option linter.unusedSimpArgs false
set_option maxRecDepth 10000
set_option maxHeartbeats 2000000
attribute [local irreducible] AOps AW AP ACalls thenQ inBlk noGoto

/-! ### package files -/
theorem hasright_c {flags f : Int} {b : Nat} {H : AHeap} {K : AVal → AHeap → Prop} (hb : Rd H b [.i flags]) (hK : K (.b (hasF flags f)) H) : ACalls Try.prog 74 ([] ++ [.i f] ++ [.ptr b 0]) H K := by
  refine acalls_body Try.func74 rfl rfl rfl ?_
  repeat first|(apply x1;apply r0;apply r0)|(apply x2;apply r0;(with_reducible assumption);apply r0)|apply w4|apply w6|apply w7|apply w5
  refine s_bits rfl rfl rfl rfl ?_
  repeat first|(apply x1;apply r0;apply r0)|apply w4|apply wd|apply w5
  exact rt1 (H' := H) rfl rfl (.refl _) s0 hK
theorem hasopen_c {flags f : Int} {b : Nat} {H : AHeap} {K : AVal → AHeap → Prop} (hb : Rd H b [.i flags]) (hK : K (.b (hasF flags f)) H) : ACalls Try.prog 39 ([] ++ [.i f] ++ [.ptr b 0]) H K := by
  refine acalls_body Try.func39 rfl rfl rfl ?_
  repeat first|(apply x1;apply r0;apply r0)|(apply x2;apply r0;(with_reducible assumption);apply r0)|apply w4|apply w6|apply w7|apply w5
  refine s_bits rfl rfl rfl rfl ?_
  repeat first|(apply x1;apply r0;apply r0)|apply w4|apply wd|apply w5
  exact rt1 (H' := H) rfl rfl (.refl _) s0 hK
theorem fright_c {flags : Int} {H : AHeap} {K : AVal → AHeap → Prop} (hK : K (.b (flagsOk flags)) H) : ACalls Try.prog 38 [.i flags] H K := by
  refine acalls_body Try.func38 rfl rfl rfl ?_
  unfold flagsOk at hK
  repeat first|apply w6|apply w7
  refine s_box rfl rfl rfl (fun b1 hb1 => ?_); have hb := hb1; (try simp only [put_none_iff, prot_none_iff] at hb); (repeat obtain ⟨_, _, hb⟩ := hb)
  repeat first|(apply x1;apply r0;apply r0)|(apply x2;apply r0;(apply q0);apply r0)|apply w4|apply w6|apply w7|apply w5
  refine s_gsplit rfl rfl (fun g1 => ?_) (fun g1 => ?_)<;>first|replace g1:=of_decide_eq_true g1|replace g1:=of_decide_eq_false g1
  case refine_2 =>
    rw [if_neg g1] at hK
    repeat first|(apply x1;apply r0;apply r0)|apply w4|(apply w3;apply r0;apply r0)|apply wd|apply w5
    exact rt1 (H' := H) rfl rfl (.refl _) (by repeat first|exact s0|(apply su1;assumption)) hK
  rw [if_pos g1] at hK
  repeat first|(apply x1;apply r0;apply r0)|(apply x2;apply r0;(apply q0);apply r0)|(apply x5;apply r0)
  refine s_gsplit rfl rfl (fun g2 => ?_) (fun g2 => ?_)<;>first|replace g2:=of_decide_eq_true g2|replace g2:=of_decide_eq_false g2
  case refine_2 =>
    rw [if_neg g2] at hK
    repeat first|(apply x1;apply r0;apply r0)|apply w4|(apply w3;apply r0;apply r0)|apply wd|apply w5
    exact rt1 (H' := H) rfl rfl (.refl _) (by repeat first|exact s0|(apply su1;assumption)) hK
  rw [if_pos g2] at hK
  repeat first|(apply x1;apply r0;apply r0)|(apply x5;apply r0)
  refine s_clo rfl rfl rfl (fkall rfl) ?_
  refine hasright_c (by apply q0) ?_
  cases z3 : hasF flags 3 with
  | false =>
    rw [z3, if_neg (by decide)] at hK
    repeat first|(apply x1;apply r0;apply r0)|apply w4|(apply w3;apply r0;apply r0)|apply wd|apply w5
    exact rt1 (H' := H) rfl rfl (.refl _) (by repeat first|exact s0|(apply su1;assumption)) hK
  | true =>
    rw [z3, if_pos rfl] at hK
    repeat first|(apply x1;apply r0;apply r0)|(apply x5;apply r0)
    refine s_clo rfl rfl rfl (fkall rfl) ?_
    refine hasright_c (by apply q0) ?_
    cases z16 : hasF flags 16 with
    | false =>
      rw [z16, if_neg (by decide)] at hK
      repeat first|(apply x1;apply r0;apply r0)|(apply x5;apply r0)|(apply w3;apply r0;apply r0)
      refine s_clo rfl rfl rfl (fkall rfl) ?_
      refine hasright_c (by apply q0) ?_
      unfold fl2 at hK
      cases z8 : hasF flags 8 with
      | false =>
        rw [z8, if_neg (by decide)] at hK
        repeat first|(apply x1;apply r0;apply r0)|(apply x5;apply r0)|apply w4|(apply w3;apply r0;apply r0)|apply wd|apply w5
        exact rt1 (H' := H) rfl rfl (.refl _) (by repeat first|exact s0|(apply su1;assumption)) hK
      | true =>
        rw [z8, if_pos rfl] at hK
        repeat first|(apply x1;apply r0;apply r0)|(apply x5;apply r0)
        refine s_clo rfl rfl rfl (fkall rfl) ?_
        refine hasright_c (by apply q0) ?_
        repeat first|(apply x1;apply r0;apply r0)|(apply x5;apply r0)|apply w4|apply wd|apply w5
        exact rt1 (H' := H) rfl rfl (.refl _) (by repeat first|exact s0|(apply su1;assumption)) hK
    | true =>
      rw [z16, if_pos rfl] at hK
      repeat first|(apply x1;apply r0;apply r0)|(apply x5;apply r0)
      refine s_clo rfl rfl rfl (fkall rfl) ?_
      refine hasright_c (by apply q0) ?_
      cases zz : hasF flags 2 with
      | false =>
        rw [zz, if_neg (by decide)] at hK
        repeat first|(apply x1;apply r0;apply r0)|(apply x5;apply r0)|apply w4|(apply w3;apply r0;apply r0)|apply wd|apply w5
        exact rt1 (H' := H) rfl rfl (.refl _) (by repeat first|exact s0|(apply su1;assumption)) hK
      | true =>
        rw [zz, if_pos rfl] at hK
        repeat first|(apply x1;apply r0;apply r0)|(apply x5;apply r0)
        refine s_clo rfl rfl rfl (fkall rfl) ?_
        refine hasright_c (by apply q0) ?_
        unfold fl2 at hK
        cases z8 : hasF flags 8 with
        | false =>
          rw [z8, if_neg (by decide)] at hK
          repeat first|(apply x1;apply r0;apply r0)|(apply x5;apply r0)|apply w4|(apply w3;apply r0;apply r0)|apply wd|apply w5
          exact rt1 (H' := H) rfl rfl (.refl _) (by repeat first|exact s0|(apply su1;assumption)) hK
        | true =>
          rw [z8, if_pos rfl] at hK
          repeat first|(apply x1;apply r0;apply r0)|(apply x5;apply r0)
          refine s_clo rfl rfl rfl (fkall rfl) ?_
          refine hasright_c (by apply q0) ?_
          repeat first|(apply x1;apply r0;apply r0)|(apply x5;apply r0)|apply w4|apply wd|apply w5
          exact rt1 (H' := H) rfl rfl (.refl _) (by repeat first|exact s0|(apply su1;assumption)) hK
theorem fwritten_c {t : Nat} {T : Tab} (hw : T.wf) {c : Cred} (hc : c.small) {i : Int} {n : Node} {d : ByteArray} (hn : (wrote c n d).small) {H : AHeap} (hT : H t = some (.cells (encTab T)))
    {K : AVal → AHeap → Prop} (hK : K (.tup []) (H.put t (.cells (encTab (T.putE i (wrote c n d)).1)))) : ACalls Try.prog 43 [.ptr t 0, .agg (encCred c), .i i, .agg (encNode n), .sl (encBytes d) .no] H K := by
  refine acalls_body Try.func43 rfl rfl rfl ?_
  repeat first|apply w6|apply w7
  refine s_box rfl rfl rfl (fun b6 hb6 => ?_); have hb := hb6; (try simp only [put_none_iff, prot_none_iff] at hb); (repeat obtain ⟨_, _, hb⟩ := hb)
  skip
  refine s_box rfl rfl rfl (fun b8 hb8 => ?_); have hb := hb8; (try simp only [put_none_iff, prot_none_iff] at hb); (repeat obtain ⟨_, _, hb⟩ := hb)
  repeat first|(apply x1;apply r0;apply r0)|(apply x2;apply r0;(with_reducible repeat first|assumption|apply q0|apply q3);apply r0)|(apply x9;apply r0)|apply w4|apply w6|apply w7|apply w5
  refine written_c hc ?_
  repeat first|(apply x1;apply r0;apply r0)|(apply x2;apply r0;(with_reducible repeat first|apply q0|apply ps);apply r0)|(apply xst;apply r0;(with_reducible repeat first|apply q0|apply ps);apply r0)|(apply x9;apply r0)|apply w4|apply w7|apply w5
  rw [show ((encNode n).set (0 + 4) (.sl (encBytes d) .no)).set (0 + 1) (.i (c.written n.kind n.mode)) = encNode (wrote c n d) from rfl]
  refine put2_c hw hn (by with_reducible repeat first|assumption|apply gp|exact n2 ‹_› ‹_›) ?_
  repeat apply w4
  exact rt0n (H' := H.put t (.cells (encTab (T.putE i (wrote c n d)).1))) rfl (by repeat first|exact s1|(apply su2;assumption)|apply put_sub') hK
theorem ffile_c {t : Nat} {T : Tab} (hw : T.wf) {i : Int} {H : AHeap} (hT : Rd H t (encTab T)) {K : AVal → AHeap → Prop} (hK : K (.tup [.agg (encNode (T.at i)), .b (decide ((T.at i).kind = 1))]) H) : ACalls Try.prog 44 [.ptr t 0, .i i] H K := by
  refine acalls_body Try.func44 rfl rfl rfl ?_
  repeat first|apply w6|apply w7
  refine s_alloc tk rfl rfl rfl (fun b4 hb4 => ?_); have hb := hb4; (try simp only [put_none_iff, prot_none_iff] at hb); (repeat obtain ⟨_, _, hb⟩ := hb)
  repeat first|(apply x1;apply r0;apply r0)|(apply x9;apply r0)|apply w4|apply w6|apply w7|apply w5
  refine tget_c hw (by with_reducible repeat first|assumption|apply q3|exact n1 ‹_› ‹_›) ?_
  repeat (apply x1;apply r0;apply r0)
  refine s_alloc tk rfl rfl rfl (fun b6 hb6 => ?_); have hb := hb6; (try simp only [put_none_iff, prot_none_iff] at hb); (repeat obtain ⟨_, _, hb⟩ := hb)
  repeat first|(apply x1;apply r0;apply r0)|(apply xst;apply r0;(apply ps);apply r0)|apply w4|apply w6|apply w5
  refine aw_prot [b6] (allc (by apply q0) (allc0 _)) ?_
  refine aw_plan mixed (.take 0 (.take 1 (.take 2 (.take 3 (.one 4 (.take 5 .done)))))) (by kernel_rfl) ?_
  repeat first|(apply xst;apply r0;(with_reducible repeat first|assumption|apply q0|apply ps|apply pg|apply gp|apply gq|apply nm1|exact nm0|exact mm0);apply r0)|apply w4|(apply y1;apply r0;apply r0)|apply y0|(apply y4;apply r0)|(apply y2;apply r0;apply r0;(with_reducible repeat first|assumption|apply q0|apply ps|apply pg|apply gp|apply gq|apply nm1|exact nm0|exact mm0);apply r0)
  simp only [put_put]
  refine prot_done_put (by simp only [List.mem_cons,List.not_mem_nil,or_false,not_or]; first|exact (by first|assumption|exact n1 ‹_› ‹_›|exact n2 ‹_› ‹_›|exact n3 ‹_› ‹_›|exact n4 ‹_› ‹_›)|exact ⟨(by first|assumption|exact n1 ‹_› ‹_›|exact n2 ‹_› ‹_›|exact n3 ‹_› ‹_›|exact n4 ‹_› ‹_›),(by first|assumption|exact n1 ‹_› ‹_›|exact n2 ‹_› ‹_›|exact n3 ‹_› ‹_›|exact n4 ‹_› ‹_›)⟩|exact ⟨(by first|assumption|exact n1 ‹_› ‹_›|exact n2 ‹_› ‹_›|exact n3 ‹_› ‹_›|exact n4 ‹_› ‹_›),(by first|assumption|exact n1 ‹_› ‹_›|exact n2 ‹_› ‹_›|exact n3 ‹_› ‹_›|exact n4 ‹_› ‹_›),(by first|assumption|exact n1 ‹_› ‹_›|exact n2 ‹_› ‹_›|exact n3 ‹_› ‹_›|exact n4 ‹_› ‹_›)⟩) ?_
  repeat first|apply wd|apply w5
  exact rt2c (H' := H) rfl rfl (by apply q0) rfl (by rfl) rfl (by exact .pair (wk_agg rfl) (.refl _)) (by repeat first|exact s0|(apply su1;assumption)) hK
theorem bytes_part (d : ByteArray) (a k : Nat) : ((encBytes d).take (encBytes d).length).drop a = encBytes (ofL ((byL d).drop a)) ∧ ((encBytes d).take k).drop 0 = encBytes (ofL ((byL d).take k)) := by
  constructor
  · rw [List.take_length, encB_ofL, encB_byL, List.map_drop]
  · rw [List.drop_zero, encB_ofL, encB_byL, List.map_take]
theorem readAt_c {t : Nat} {T : Tab} (hg : T.good) {i off n : Int} {H : AHeap} (hT : Rd H t (encTab T)) {K : AVal → AHeap → Prop} (hK : K (.tup [.sl (encBytes (T.readF i off n).1) .no, .i (T.readF i off n).2]) H) : ACalls Try.prog 20 [.ptr t 0, .i i, .i off, .i n] H K := by
  refine acalls_body Try.func20 rfl rfl rfl ?_
  have hf := at_few hg i
  unfold Tab.readF at hK
  repeat first|(apply x1;apply r0;apply r0)|(apply x9;apply r0)|apply w4|apply w6|apply w7|apply w5
  refine ffile_c hg.wf (by with_reducible assumption) ?_
  generalize T.at i = nd at hK hf ⊢
  have hl := encBytes_len nd.data
  have hf2 := hf.2.1
  repeat (apply x1;apply r0;apply r0)
  refine s_alloc tk rfl rfl rfl (fun b10 hb10 => ?_); have hb := hb10; (try simp only [put_none_iff, prot_none_iff] at hb); (repeat obtain ⟨_, _, hb⟩ := hb)
  repeat first|(apply x1;apply r0;apply r0)|(apply xst;apply r0;(apply ps);apply r0)|apply w4|apply w6|apply w7|apply wb|apply w5
  refine aw_cond rfl (fun g1 => ?_) (fun g1 => ?_)<;>first|replace g1:=not_t g1|replace g1:=not_f g1
  · rw [if_pos g1] at hK
    repeat first|(apply gO;first|(apply x1;apply r0;apply r0)|apply w4)|(apply gW;first|apply w6|apply w7|apply wd)|apply w5|apply we|apply wj
    exact rt2 (H' := H) rfl rfl rfl (.pair (.sl _ _) (.refl _)) (by repeat first|exact s0|(apply su1;assumption)) hK
  rw [if_neg (fun q => q g1)] at hK
  repeat first|(apply x1;apply r0;apply r0)|apply w6|apply w7
  refine s_gsplit rfl rfl (fun g2 => ?_) (fun g2 => ?_)<;>first|replace g2:=of_decide_eq_true g2|replace g2:=of_decide_eq_false g2
  · rw [if_pos g2] at hK
    repeat first|(apply gO;first|(apply x1;apply r0;apply r0)|apply w4|(apply w3;apply r0;apply r0))|(apply gW;first|apply w6|apply w7|(apply w8;apply r0)|apply wd)|apply w5|apply we|apply wj
    exact rt2 (H' := H) rfl rfl rfl (.pair (.sl _ _) (.refl _)) (by repeat first|exact s0|(apply su1;assumption)) hK
  rw [if_neg g2] at hK
  repeat first|(apply x1;apply r0;apply r0)|(apply x5;apply r0)|apply w4|apply w5
  refine aw_cond rfl (fun g3 => ?_) (fun g3 => ?_)<;>first|replace g3:=of_decide_eq_true g3|replace g3:=of_decide_eq_false g3
  · rw [if_pos g3] at hK
    repeat first|(apply gO;first|(apply x1;apply r0;apply r0)|apply w4)|(apply gW;first|apply w6|apply w7|apply wd)|apply w5|apply we|apply wj
    exact rt2 (H' := H) rfl rfl rfl (.pair (.sl _ _) (.refl _)) (by repeat first|exact s0|(apply su1;assumption)) hK
  rw [if_neg g3] at hK
  repeat first|(apply x1;apply r0;apply r0)|(apply x2;apply r0;(apply q0);apply r0)|apply w6|apply w7|apply wa|apply w5|apply wg
  have hm1 : (if ((encBytes nd.data).length : Int) < off then ((encBytes nd.data).length : Int) else off) = min off nd.data.size := by
    rw [hl]; split <;> omega
  rw [hm1]
  refine s_slice tk rfl rfl rfl (uni_bytes _) rfl rfl (by omega) (show min off (nd.data.size : Int) ≤ (((encBytes nd.data).length : Nat) : Int) by rw [hl]; omega) (Int.le_refl _) ?_
  rw [show ((encBytes nd.data).take ((((encBytes nd.data).length : Nat) : Int)).toNat).drop (min off (nd.data.size : Int)).toNat = encBytes (ofL ((byL nd.data).drop (min off (nd.data.size : Int)).toNat)) from by rw [Int.toNat_natCast]; exact (bytes_part _ _ 0).1]
  unfold readB at hK
  have hl2 : (encBytes (ofL ((byL nd.data).drop (min off (nd.data.size : Int)).toNat))).length = ((byL nd.data).drop (min off (nd.data.size : Int)).toNat).length := by rw [encB_ofL, List.length_map]
  have hl3 : ((byL nd.data).drop (min off (nd.data.size : Int)).toNat).length ≤ 100 := by rw [List.length_drop, byL_len]; omega
  generalize (byL nd.data).drop (min off (nd.data.size : Int)).toNat = w at hK hl2 hl3 ⊢
  repeat first|(apply x1;apply r0;apply r0)|apply w4|apply w6|apply w7|apply w5
  have hm2 : (if ((encBytes (ofL w)).length : Int) < n then ((encBytes (ofL w)).length : Int) else n) = min n (w.length : Int) := by
    rw [hl2]; split <;> omega
  rw [hm2]
  refine s_slice tk rfl rfl rfl (uni_bytes _) rfl rfl (by omega) (by omega) (show min n (w.length : Int) ≤ (((encBytes (ofL w)).length : Nat) : Int) by rw [hl2]; omega) ?_
  rw [show ((encBytes (ofL w)).take (min n (w.length : Int)).toNat).drop (0 : Int).toNat = encBytes (ofL (w.take (min n (w.length : Int)).toNat)) from by
    have := (bytes_part (ofL w) 0 (min n (w.length : Int)).toNat).2
    rw [byL_ofL] at this; exact this]
  repeat (apply x9;apply r0)
  refine clone_bytes (uni_bytes _) (flat_bytes _) (by rw [encBytes_len]; show (List.toArray _).size * 1 ≤ _; rw [List.size_toArray, List.length_take]; omega) ?_
  repeat first|(apply x1;apply r0;apply r0)|apply w4|apply wd|apply w5
  exact rt2 (H' := H) rfl rfl rfl (.refl _) (by repeat first|exact s0|(apply su1;assumption)) hK
end Abs
end Go.Proofs.Ytpifnlodilcgkaa
