import Derived.Test.YtpifnlodilcgkaaHB
set_option linter.unusedVariables false
namespace Go.Proofs.Ytpifnlodilcgkaa
namespace Abs
set_option linter.unusedSimpArgs false
set_option maxRecDepth 10000
set_option maxHeartbeats 2000000
attribute [local irreducible] AOps AW AP ACalls thenQ inBlk noGoto

/-! ### package files: Open -/
theorem wrote_small {c : Cred} {n : Node} {d : ByteArray} (h : n.small) (hd : d.size ≤ 1000) : (wrote c n d).small := ⟨by show d.size ≤ _; omega, h.2⟩
theorem open_c {t : Nat} {T : Tab} (hg : T.good) {c : Cred} (hc : c.small) {umask mode flags : Int} {path : ByteArray} {H : AHeap} (hT : H t = some (.cells (encTab T)))
    {K : AVal → AHeap → Prop} (hK : K (.tup [.i (T.openF c umask (T.resolve c path (!hasF flags 40)) flags mode).2.1, .i (T.openF c umask (T.resolve c path (!hasF flags 40)) flags mode).2.2]) (H.put t (.cells (encTab (T.openF c umask (T.resolve c path (!hasF flags 40)) flags mode).1)))) :
    ACalls Try.prog 14 [.ptr t 0, .agg (encCred c), .i umask, .s path, .i flags, .i mode] H K := by
  refine acalls_body Try.func14 rfl rfl rfl ?_
  have hw := hg.wf
  obtain ⟨R, hR⟩ : ∃ R, R = T.openF c umask (T.resolve c path (!hasF flags 40)) flags mode := ⟨_, rfl⟩
  rw [← hR] at hK
  unfold Tab.openF at hR
  repeat first|apply w6|apply w7
  refine s_box rfl rfl rfl (fun b7 hb7 => ?_); have hb := hb7; (try simp only [put_none_iff, prot_none_iff] at hb); (repeat obtain ⟨_, _, hb⟩ := hb)
  skip
  refine s_box rfl rfl rfl (fun b10 hb10 => ?_); have hb := hb10; (try simp only [put_none_iff, prot_none_iff] at hb); (repeat obtain ⟨_, _, hb⟩ := hb)
  repeat first|(apply x1;apply r0;apply r0)|(apply x2;apply r0;(apply q0);apply r0)|(apply x9;apply r0)|apply w4|apply w6|apply w7|apply w5
  refine fright_c ?_
  cases z0 : flagsOk flags with
  | false =>
    rw [z0, if_pos rfl] at hR
    rw [hR, put_id hT] at hK
    repeat first|(apply gO;first|(apply x1;apply r0;apply r0)|apply w4)|(apply gW;first|apply w6|apply w7|(apply w8;apply r0)|apply wd)|apply w5|apply we
    exact rt2 (H' := H) rfl rfl rfl (.refl _) (by repeat first|exact s0|(apply su1;assumption)) hK
  | true =>
    rw [z0, if_neg (by decide)] at hR
    repeat first|(apply x1;apply r0;apply r0)|apply w4|apply w6|apply w7|(apply w9;apply r0)|apply wa|apply w5
    refine s_clo rfl rfl rfl (fkall rfl) ?_
    refine hasopen_c (by apply q0) ?_
    repeat first|(apply x1;apply r0;apply r0)|(apply x2;apply r0;(with_reducible repeat first|assumption|apply q0|apply q3);apply r0)|(apply x9;apply r0)|apply w4|apply w6|apply w7|apply w5
    refine resolve_c hg hc (by with_reducible repeat first|exact q1 ‹_›|apply q3|exact n2 ‹_› ‹_›) ?_
    generalize hr : T.resolve c path (!hasF flags 40) = r at hR ⊢
    have hsm := (at_few hg r.1.node).small
    repeat (apply x1;apply r0;apply r0)
    refine s_alloc tk rfl rfl rfl (fun b16 hb16 => ?_); have hb := hb16; (try simp only [put_none_iff, prot_none_iff] at hb); (repeat obtain ⟨_, _, hb⟩ := hb)
    repeat first|(apply x1;apply r0;apply r0)|(apply xst;apply r0;(apply ps);apply r0)|apply w4|apply w6|apply w7|apply w5
    refine aw_cond rfl (fun g1 => ?_) (fun g1 => ?_)<;>first|replace g1:=not_t g1|replace g1:=not_f g1
    · rw [if_pos g1] at hR
      rw [hR, put_id hT] at hK
      repeat first|(apply x1;apply r0;apply r0)|apply w4|apply w6|apply w7|apply wd|apply w5|apply we
      exact rt2 (H' := H) rfl rfl rfl (.refl _) (by repeat first|exact s0|(apply su1;assumption)) hK
    rw [if_neg (fun q => q g1)] at hR
    repeat first|(apply x1;apply r0;apply r0)|(apply x2;apply r0;(apply q0);apply r0)|(apply x9;apply r0)|apply w6|apply w7|apply wa|apply w5
    refine tget_c hw (by with_reducible repeat first|exact q1 ‹_›|apply q3|exact n2 ‹_› ‹_›) ?_
    repeat (apply x1;apply r0;apply r0)
    refine s_alloc tk rfl rfl rfl (fun b18 hb18 => ?_); have hb := hb18; (try simp only [put_none_iff, prot_none_iff] at hb); (repeat obtain ⟨_, _, hb⟩ := hb)
    repeat first|(apply x1;apply r0;apply r0)|(apply xst;apply r0;(apply ps);apply r0)|apply w4|apply w6|apply w7|apply w5
    cases hh : T.has r.1.node with
    | false =>
      rw [hh, if_pos rfl] at hR
      repeat first|(apply x1;apply r0;apply r0)|apply w6|apply w7|(apply w8;apply r0)
      refine s_clo rfl rfl rfl (fkall rfl) ?_
      refine hasopen_c (by with_reducible repeat first|assumption|apply q0|apply q3) ?_
      cases z4 : hasF flags 4 with
      | false =>
        rw [z4, if_pos rfl] at hR
        rw [hR, put_id hT] at hK
        repeat first|(apply gO;first|(apply x1;apply r0;apply r0)|apply w4)|(apply gW;first|apply w6|apply w7|(apply w8;apply r0)|apply wd)|apply w5|apply we
        exact rt2 (H' := H) rfl rfl rfl (.refl _) (by repeat first|exact s0|(apply su1;assumption)) hK
      | true =>
        rw [z4, if_neg (by decide)] at hR
        rw [hR] at hK
        repeat first|(apply gO;first|(apply x1;apply r0;apply r0)|(apply x2;apply r0;(with_reducible repeat first|assumption|apply q0|apply q3);apply r0)|(apply x9;apply r0)|apply w4)|(apply gW;first|apply w6|apply w7|(apply w9;apply r0)|apply wa)|apply w5
        refine create_c hg hc (by with_reducible repeat first|assumption|apply gp|exact n2 ‹_› ‹_›) ?_
        rw [hr]
        generalize T.plant c r (fun _ => fileN mode umask) = Q at hK ⊢
        repeat first|(apply x1;apply r0;apply r0)|apply w4|apply wd|apply w5|apply we
        exact rt2 (H' := H.put t (.cells (encTab Q.1))) rfl rfl rfl (.refl _) (by repeat first|exact s1|(apply su2;assumption)|apply put_sub') hK
    | true =>
      rw [hh, if_neg (by decide)] at hR
      repeat first|(apply x1;apply r0;apply r0)|apply w4|apply w6|apply w7|(apply w9;apply r0)|apply wa|apply w5
      refine s_clo rfl rfl rfl (fkall rfl) ?_
      refine hasopen_c (by with_reducible repeat first|assumption|apply q0|apply q3) ?_
      cases z1 : hasF flags 1 with
      | false =>
        repeat first|(apply x1;apply r0;apply r0)|apply w4|apply w6|apply w7|(apply w9;apply r0)|apply wa|apply w5
        refine s_clo rfl rfl rfl (fkall rfl) ?_
        refine hasopen_c (by with_reducible repeat first|assumption|apply q0|apply q3) ?_
        cases z2 : hasF flags 2 with
        | false =>
          have hwv : wantF flags = 0 := by unfold wantF; rw [z1, z2]; rfl
          rw [hwv] at hR
          repeat first|(apply gO;first|(apply x1;apply r0;apply r0)|apply w4)|(apply gW;first|apply w6|apply w7|(apply w9;apply r0)|apply wa|apply wb)|apply w5
          refine s_clo rfl rfl rfl (fkall rfl) ?_
          refine hasopen_c (by with_reducible repeat first|assumption|apply q0|apply q3) ?_
          cases z8 : hasF flags 8 with
          | true =>
            rw [z8, if_pos rfl] at hR
            rw [hR, put_id hT] at hK
            repeat first|(apply gO;first|(apply x1;apply r0;apply r0)|apply w4)|(apply gW;first|apply w6|apply w7|(apply w8;apply r0)|apply wd)|apply w5|apply we|apply wj
            exact rt2 (H' := H) rfl rfl rfl (.refl _) (by repeat first|exact s0|(apply su1;assumption)) hK
          | false =>
            rw [z8, if_neg (by decide)] at hR
            repeat first|(apply x1;apply r0;apply r0)|(apply x2;apply r0;(apply q0);apply r0)|apply w4|apply w6|apply w7|(apply w9;apply r0)|apply w5
            refine aw_cond rfl (fun k3 => ?_) (fun k3 => ?_)<;>first|replace k3:=of_decide_eq_true k3|replace k3:=of_decide_eq_false k3
            · rw [if_pos k3] at hR
              rw [hR, put_id hT] at hK
              repeat first|(apply gO;first|(apply x1;apply r0;apply r0)|apply w4)|(apply gW;first|apply w6|apply w7|apply wd)|apply w5|apply we|apply wj
              exact rt2 (H' := H) rfl rfl rfl (.refl _) (by repeat first|exact s0|(apply su1;assumption)) hK
            rw [if_neg k3] at hR
            repeat first|(apply x1;apply r0;apply r0)|(apply x2;apply r0;(apply q0);apply r0)|apply w4|apply w6|apply w7|apply w5
            refine aw_cond rfl (fun k2 => ?_) (fun k2 => ?_)<;>first|replace k2:=of_decide_eq_true k2|replace k2:=of_decide_eq_false k2
            · rw [if_pos k2] at hR
              rw [hR, put_id hT] at hK
              repeat first|(apply gO;first|(apply x1;apply r0;apply r0)|apply w4)|(apply gW;first|apply w6|apply w7|apply wd)|apply w5|apply we|apply wj
              exact rt2 (H' := H) rfl rfl rfl (.refl _) (by repeat first|exact s0|(apply su1;assumption)) hK
            rw [if_neg k2] at hR
            repeat first|(apply x1;apply r0;apply r0)|(apply x2;apply r0;(with_reducible repeat first|assumption|apply q0|apply q3);apply r0)|(apply x9;apply r0)|apply w6|apply w7
            refine can1_c hw hc (by with_reducible repeat first|exact q1 ‹_›|apply q3|exact n2 ‹_› ‹_›) ?_
            cases hcan : T.can c r.1.node 0 with
            | false =>
              rw [hcan, if_pos rfl] at hR
              rw [hR, put_id hT] at hK
              repeat first|(apply gO;first|(apply x1;apply r0;apply r0)|apply w4)|(apply gW;first|apply w6|apply w7|(apply w8;apply r0)|apply wd)|apply w5|apply we|apply wj
              exact rt2 (H' := H) rfl rfl rfl (.refl _) (by repeat first|exact s0|(apply su1;assumption)) hK
            | true =>
              rw [hcan, if_neg (by decide)] at hR
              repeat first|(apply gO;first|(apply x1;apply r0;apply r0)|apply w4)|(apply gW;first|apply w6|apply w7|(apply w9;apply r0)|apply wa)|apply w5|apply wg
              refine s_clo rfl rfl rfl (fkall rfl) ?_
              refine hasopen_c (by with_reducible repeat first|assumption|apply q0|apply q3) ?_
              cases z16 : hasF flags 16 with
              | true =>
                rw [z16, if_pos rfl] at hR
                rw [hR] at hK
                repeat first|(apply x1;apply r0;apply r0)|(apply x2;apply r0;(with_reducible repeat first|assumption|apply q0|apply q3);apply r0)|(apply x9;apply r0)|apply w4|apply w7|(apply w8;apply r0)|apply w5
                refine ACalls.wk (fwritten_c (d := ⟨#[]⟩) hw hc (wrote_small hsm (by decide)) (by with_reducible repeat first|assumption|apply gp|exact n2 ‹_› ‹_›) ?_) (wk5 (.sl _ _))
                repeat first|(apply x1;apply r0;apply r0)|(apply x2;apply r0;(with_reducible repeat first|assumption|apply q0|apply q3|exact n4 ‹_› ‹_›);apply r0)|apply w4|apply w6|apply w7|apply wd|apply w5
                exact rt2 (H' := H.put t (.cells (encTab (T.putE r.1.node (wrote c (T.at r.1.node) ⟨#[]⟩)).1))) rfl rfl rfl (.refl _) (by repeat first|exact s1|(apply su2;assumption)|apply put_sub') hK
              | false =>
                rw [z16, if_neg (by decide)] at hR
                rw [hR, put_id hT] at hK
                repeat first|(apply gO;first|(apply x1;apply r0;apply r0)|(apply x2;apply r0;(with_reducible repeat first|assumption|apply q0|apply q3);apply r0)|apply w4)|(apply gW;first|apply w6|apply w7|(apply w9;apply r0)|apply wa|apply wd)|apply w5
                exact rt2 (H' := H) rfl rfl rfl (.refl _) (by repeat first|exact s0|(apply su1;assumption)) hK
        | true =>
          repeat first|(apply x1;apply r0;apply r0)|apply w4|apply w7|(apply w8;apply r0)|apply w5
          refine s_bits rfl rfl rfl rfl ?_
          rw [show bitsR .or .i64 0 2 = 2 by decide]
          have hwv : wantF flags = 2 := by unfold wantF; rw [z1, z2]; rfl
          rw [hwv] at hR
          repeat first|(apply x1;apply r0;apply r0)|apply w4|apply w6|apply w7|apply wb|apply w5
          refine s_clo rfl rfl rfl (fkall rfl) ?_
          refine hasopen_c (by with_reducible repeat first|assumption|apply q0|apply q3) ?_
          cases z8 : hasF flags 8 with
          | true =>
            rw [z8, if_pos rfl] at hR
            rw [hR, put_id hT] at hK
            repeat first|(apply gO;first|(apply x1;apply r0;apply r0)|apply w4)|(apply gW;first|apply w6|apply w7|(apply w8;apply r0)|apply wd)|apply w5|apply we|apply wj
            exact rt2 (H' := H) rfl rfl rfl (.refl _) (by repeat first|exact s0|(apply su1;assumption)) hK
          | false =>
            rw [z8, if_neg (by decide)] at hR
            repeat first|(apply x1;apply r0;apply r0)|(apply x2;apply r0;(apply q0);apply r0)|apply w4|apply w6|apply w7|(apply w9;apply r0)|apply w5
            refine aw_cond rfl (fun k3 => ?_) (fun k3 => ?_)<;>first|replace k3:=of_decide_eq_true k3|replace k3:=of_decide_eq_false k3
            · rw [if_pos k3] at hR
              rw [hR, put_id hT] at hK
              repeat first|(apply gO;first|(apply x1;apply r0;apply r0)|apply w4)|(apply gW;first|apply w6|apply w7|apply wd)|apply w5|apply we|apply wj
              exact rt2 (H' := H) rfl rfl rfl (.refl _) (by repeat first|exact s0|(apply su1;assumption)) hK
            rw [if_neg k3] at hR
            repeat first|(apply x1;apply r0;apply r0)|(apply x2;apply r0;(apply q0);apply r0)|apply w4|apply w6|apply w7|apply w5
            refine aw_cond rfl (fun k2 => ?_) (fun k2 => ?_)<;>first|replace k2:=of_decide_eq_true k2|replace k2:=of_decide_eq_false k2
            · rw [if_pos k2] at hR
              rw [hR, put_id hT] at hK
              repeat first|(apply gO;first|(apply x1;apply r0;apply r0)|apply w4)|(apply gW;first|apply w6|apply w7|apply wd)|apply w5|apply we|apply wj
              exact rt2 (H' := H) rfl rfl rfl (.refl _) (by repeat first|exact s0|(apply su1;assumption)) hK
            rw [if_neg k2] at hR
            repeat first|(apply x1;apply r0;apply r0)|(apply x2;apply r0;(with_reducible repeat first|assumption|apply q0|apply q3);apply r0)|(apply x9;apply r0)|apply w6|apply w7
            refine can1_c hw hc (by with_reducible repeat first|exact q1 ‹_›|apply q3|exact n2 ‹_› ‹_›) ?_
            cases hcan : T.can c r.1.node 2 with
            | false =>
              rw [hcan, if_pos rfl] at hR
              rw [hR, put_id hT] at hK
              repeat first|(apply gO;first|(apply x1;apply r0;apply r0)|apply w4)|(apply gW;first|apply w6|apply w7|(apply w8;apply r0)|apply wd)|apply w5|apply we|apply wj
              exact rt2 (H' := H) rfl rfl rfl (.refl _) (by repeat first|exact s0|(apply su1;assumption)) hK
            | true =>
              rw [hcan, if_neg (by decide)] at hR
              repeat first|(apply gO;first|(apply x1;apply r0;apply r0)|apply w4)|(apply gW;first|apply w6|apply w7|(apply w9;apply r0)|apply wa)|apply w5|apply wg
              refine s_clo rfl rfl rfl (fkall rfl) ?_
              refine hasopen_c (by with_reducible repeat first|assumption|apply q0|apply q3) ?_
              cases z16 : hasF flags 16 with
              | true =>
                rw [z16, if_pos rfl] at hR
                rw [hR] at hK
                repeat first|(apply x1;apply r0;apply r0)|(apply x2;apply r0;(with_reducible repeat first|assumption|apply q0|apply q3);apply r0)|(apply x9;apply r0)|apply w4|apply w7|(apply w8;apply r0)|apply w5
                refine ACalls.wk (fwritten_c (d := ⟨#[]⟩) hw hc (wrote_small hsm (by decide)) (by with_reducible repeat first|assumption|apply gp|exact n2 ‹_› ‹_›) ?_) (wk5 (.sl _ _))
                repeat first|(apply x1;apply r0;apply r0)|(apply x2;apply r0;(with_reducible repeat first|assumption|apply q0|apply q3|exact n4 ‹_› ‹_›);apply r0)|apply w4|apply w6|apply w7|apply wd|apply w5
                exact rt2 (H' := H.put t (.cells (encTab (T.putE r.1.node (wrote c (T.at r.1.node) ⟨#[]⟩)).1))) rfl rfl rfl (.refl _) (by repeat first|exact s1|(apply su2;assumption)|apply put_sub') hK
              | false =>
                rw [z16, if_neg (by decide)] at hR
                rw [hR, put_id hT] at hK
                repeat first|(apply gO;first|(apply x1;apply r0;apply r0)|(apply x2;apply r0;(with_reducible repeat first|assumption|apply q0|apply q3);apply r0)|apply w4)|(apply gW;first|apply w6|apply w7|(apply w9;apply r0)|apply wa|apply wd)|apply w5
                exact rt2 (H' := H) rfl rfl rfl (.refl _) (by repeat first|exact s0|(apply su1;assumption)) hK
      | true =>
        repeat first|(apply x1;apply r0;apply r0)|apply w4|apply w7|(apply w8;apply r0)|apply w5
        refine s_bits rfl rfl rfl rfl ?_
        rw [show bitsR .or .i64 0 4 = 4 by decide]
        repeat first|(apply x1;apply r0;apply r0)|apply w4|apply w6|apply w7|apply w5
        refine s_clo rfl rfl rfl (fkall rfl) ?_
        refine hasopen_c (by with_reducible repeat first|assumption|apply q0|apply q3) ?_
        cases z2 : hasF flags 2 with
        | false =>
          have hwv : wantF flags = 4 := by unfold wantF; rw [z1, z2]; rfl
          rw [hwv] at hR
          repeat first|(apply gO;first|(apply x1;apply r0;apply r0)|apply w4)|(apply gW;first|apply w6|apply w7|(apply w9;apply r0)|apply wa|apply wb)|apply w5
          refine s_clo rfl rfl rfl (fkall rfl) ?_
          refine hasopen_c (by with_reducible repeat first|assumption|apply q0|apply q3) ?_
          cases z8 : hasF flags 8 with
          | true =>
            rw [z8, if_pos rfl] at hR
            rw [hR, put_id hT] at hK
            repeat first|(apply gO;first|(apply x1;apply r0;apply r0)|apply w4)|(apply gW;first|apply w6|apply w7|(apply w8;apply r0)|apply wd)|apply w5|apply we|apply wj
            exact rt2 (H' := H) rfl rfl rfl (.refl _) (by repeat first|exact s0|(apply su1;assumption)) hK
          | false =>
            rw [z8, if_neg (by decide)] at hR
            repeat first|(apply x1;apply r0;apply r0)|(apply x2;apply r0;(apply q0);apply r0)|apply w4|apply w6|apply w7|(apply w9;apply r0)|apply w5
            refine aw_cond rfl (fun k3 => ?_) (fun k3 => ?_)<;>first|replace k3:=of_decide_eq_true k3|replace k3:=of_decide_eq_false k3
            · rw [if_pos k3] at hR
              rw [hR, put_id hT] at hK
              repeat first|(apply gO;first|(apply x1;apply r0;apply r0)|apply w4)|(apply gW;first|apply w6|apply w7|apply wd)|apply w5|apply we|apply wj
              exact rt2 (H' := H) rfl rfl rfl (.refl _) (by repeat first|exact s0|(apply su1;assumption)) hK
            rw [if_neg k3] at hR
            repeat first|(apply x1;apply r0;apply r0)|(apply x2;apply r0;(apply q0);apply r0)|apply w4|apply w6|apply w7|apply w5
            refine aw_cond rfl (fun k2 => ?_) (fun k2 => ?_)<;>first|replace k2:=of_decide_eq_true k2|replace k2:=of_decide_eq_false k2
            · rw [if_pos k2] at hR
              rw [hR, put_id hT] at hK
              repeat first|(apply gO;first|(apply x1;apply r0;apply r0)|apply w4)|(apply gW;first|apply w6|apply w7|apply wd)|apply w5|apply we|apply wj
              exact rt2 (H' := H) rfl rfl rfl (.refl _) (by repeat first|exact s0|(apply su1;assumption)) hK
            rw [if_neg k2] at hR
            repeat first|(apply x1;apply r0;apply r0)|(apply x2;apply r0;(with_reducible repeat first|assumption|apply q0|apply q3);apply r0)|(apply x9;apply r0)|apply w6|apply w7
            refine can1_c hw hc (by with_reducible repeat first|exact q1 ‹_›|apply q3|exact n2 ‹_› ‹_›) ?_
            cases hcan : T.can c r.1.node 4 with
            | false =>
              rw [hcan, if_pos rfl] at hR
              rw [hR, put_id hT] at hK
              repeat first|(apply gO;first|(apply x1;apply r0;apply r0)|apply w4)|(apply gW;first|apply w6|apply w7|(apply w8;apply r0)|apply wd)|apply w5|apply we|apply wj
              exact rt2 (H' := H) rfl rfl rfl (.refl _) (by repeat first|exact s0|(apply su1;assumption)) hK
            | true =>
              rw [hcan, if_neg (by decide)] at hR
              repeat first|(apply gO;first|(apply x1;apply r0;apply r0)|apply w4)|(apply gW;first|apply w6|apply w7|(apply w9;apply r0)|apply wa)|apply w5|apply wg
              refine s_clo rfl rfl rfl (fkall rfl) ?_
              refine hasopen_c (by with_reducible repeat first|assumption|apply q0|apply q3) ?_
              cases z16 : hasF flags 16 with
              | true =>
                rw [z16, if_pos rfl] at hR
                rw [hR] at hK
                repeat first|(apply x1;apply r0;apply r0)|(apply x2;apply r0;(with_reducible repeat first|assumption|apply q0|apply q3);apply r0)|(apply x9;apply r0)|apply w4|apply w7|(apply w8;apply r0)|apply w5
                refine ACalls.wk (fwritten_c (d := ⟨#[]⟩) hw hc (wrote_small hsm (by decide)) (by with_reducible repeat first|assumption|apply gp|exact n2 ‹_› ‹_›) ?_) (wk5 (.sl _ _))
                repeat first|(apply x1;apply r0;apply r0)|(apply x2;apply r0;(with_reducible repeat first|assumption|apply q0|apply q3|exact n4 ‹_› ‹_›);apply r0)|apply w4|apply w6|apply w7|apply wd|apply w5
                exact rt2 (H' := H.put t (.cells (encTab (T.putE r.1.node (wrote c (T.at r.1.node) ⟨#[]⟩)).1))) rfl rfl rfl (.refl _) (by repeat first|exact s1|(apply su2;assumption)|apply put_sub') hK
              | false =>
                rw [z16, if_neg (by decide)] at hR
                rw [hR, put_id hT] at hK
                repeat first|(apply gO;first|(apply x1;apply r0;apply r0)|(apply x2;apply r0;(with_reducible repeat first|assumption|apply q0|apply q3);apply r0)|apply w4)|(apply gW;first|apply w6|apply w7|(apply w9;apply r0)|apply wa|apply wd)|apply w5
                exact rt2 (H' := H) rfl rfl rfl (.refl _) (by repeat first|exact s0|(apply su1;assumption)) hK
        | true =>
          repeat first|(apply x1;apply r0;apply r0)|apply w4|apply w7|(apply w8;apply r0)|apply w5
          refine s_bits rfl rfl rfl rfl ?_
          rw [show bitsR .or .i64 4 2 = 6 by decide]
          have hwv : wantF flags = 6 := by unfold wantF; rw [z1, z2]; rfl
          rw [hwv] at hR
          repeat first|(apply x1;apply r0;apply r0)|apply w4|apply w6|apply w7|apply wb|apply w5
          refine s_clo rfl rfl rfl (fkall rfl) ?_
          refine hasopen_c (by with_reducible repeat first|assumption|apply q0|apply q3) ?_
          cases z8 : hasF flags 8 with
          | true =>
            rw [z8, if_pos rfl] at hR
            rw [hR, put_id hT] at hK
            repeat first|(apply gO;first|(apply x1;apply r0;apply r0)|apply w4)|(apply gW;first|apply w6|apply w7|(apply w8;apply r0)|apply wd)|apply w5|apply we|apply wj
            exact rt2 (H' := H) rfl rfl rfl (.refl _) (by repeat first|exact s0|(apply su1;assumption)) hK
          | false =>
            rw [z8, if_neg (by decide)] at hR
            repeat first|(apply x1;apply r0;apply r0)|(apply x2;apply r0;(apply q0);apply r0)|apply w4|apply w6|apply w7|(apply w9;apply r0)|apply w5
            refine aw_cond rfl (fun k3 => ?_) (fun k3 => ?_)<;>first|replace k3:=of_decide_eq_true k3|replace k3:=of_decide_eq_false k3
            · rw [if_pos k3] at hR
              rw [hR, put_id hT] at hK
              repeat first|(apply gO;first|(apply x1;apply r0;apply r0)|apply w4)|(apply gW;first|apply w6|apply w7|apply wd)|apply w5|apply we|apply wj
              exact rt2 (H' := H) rfl rfl rfl (.refl _) (by repeat first|exact s0|(apply su1;assumption)) hK
            rw [if_neg k3] at hR
            repeat first|(apply x1;apply r0;apply r0)|(apply x2;apply r0;(apply q0);apply r0)|apply w4|apply w6|apply w7|apply w5
            refine aw_cond rfl (fun k2 => ?_) (fun k2 => ?_)<;>first|replace k2:=of_decide_eq_true k2|replace k2:=of_decide_eq_false k2
            · rw [if_pos k2] at hR
              rw [hR, put_id hT] at hK
              repeat first|(apply gO;first|(apply x1;apply r0;apply r0)|apply w4)|(apply gW;first|apply w6|apply w7|apply wd)|apply w5|apply we|apply wj
              exact rt2 (H' := H) rfl rfl rfl (.refl _) (by repeat first|exact s0|(apply su1;assumption)) hK
            rw [if_neg k2] at hR
            repeat first|(apply x1;apply r0;apply r0)|(apply x2;apply r0;(with_reducible repeat first|assumption|apply q0|apply q3);apply r0)|(apply x9;apply r0)|apply w6|apply w7
            refine can1_c hw hc (by with_reducible repeat first|exact q1 ‹_›|apply q3|exact n2 ‹_› ‹_›) ?_
            cases hcan : T.can c r.1.node 6 with
            | false =>
              rw [hcan, if_pos rfl] at hR
              rw [hR, put_id hT] at hK
              repeat first|(apply gO;first|(apply x1;apply r0;apply r0)|apply w4)|(apply gW;first|apply w6|apply w7|(apply w8;apply r0)|apply wd)|apply w5|apply we|apply wj
              exact rt2 (H' := H) rfl rfl rfl (.refl _) (by repeat first|exact s0|(apply su1;assumption)) hK
            | true =>
              rw [hcan, if_neg (by decide)] at hR
              repeat first|(apply gO;first|(apply x1;apply r0;apply r0)|apply w4)|(apply gW;first|apply w6|apply w7|(apply w9;apply r0)|apply wa)|apply w5|apply wg
              refine s_clo rfl rfl rfl (fkall rfl) ?_
              refine hasopen_c (by with_reducible repeat first|assumption|apply q0|apply q3) ?_
              cases z16 : hasF flags 16 with
              | true =>
                rw [z16, if_pos rfl] at hR
                rw [hR] at hK
                repeat first|(apply x1;apply r0;apply r0)|(apply x2;apply r0;(with_reducible repeat first|assumption|apply q0|apply q3);apply r0)|(apply x9;apply r0)|apply w4|apply w7|(apply w8;apply r0)|apply w5
                refine ACalls.wk (fwritten_c (d := ⟨#[]⟩) hw hc (wrote_small hsm (by decide)) (by with_reducible repeat first|assumption|apply gp|exact n2 ‹_› ‹_›) ?_) (wk5 (.sl _ _))
                repeat first|(apply x1;apply r0;apply r0)|(apply x2;apply r0;(with_reducible repeat first|assumption|apply q0|apply q3|exact n4 ‹_› ‹_›);apply r0)|apply w4|apply w6|apply w7|apply wd|apply w5
                exact rt2 (H' := H.put t (.cells (encTab (T.putE r.1.node (wrote c (T.at r.1.node) ⟨#[]⟩)).1))) rfl rfl rfl (.refl _) (by repeat first|exact s1|(apply su2;assumption)|apply put_sub') hK
              | false =>
                rw [z16, if_neg (by decide)] at hR
                rw [hR, put_id hT] at hK
                repeat first|(apply gO;first|(apply x1;apply r0;apply r0)|(apply x2;apply r0;(with_reducible repeat first|assumption|apply q0|apply q3);apply r0)|apply w4)|(apply gW;first|apply w6|apply w7|(apply w9;apply r0)|apply wa|apply wd)|apply w5
                exact rt2 (H' := H) rfl rfl rfl (.refl _) (by repeat first|exact s0|(apply su1;assumption)) hK
end Abs
end Go.Proofs.Ytpifnlodilcgkaa
