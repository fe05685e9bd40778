import Derived.Test.YtkopeigfjjbajaaZB
set_option linter.unusedVariables false
namespace Go.Proofs.Ytkopeigfjjbajaa
namespace Abs
set_option maxRecDepth 10000

/-! ### who isn't root: the plain law -/
theorem dropS_all : ∀ a : Fin 64, ∀ b : Fin 64, bitsR .and .i64 (dropB ((64 * a.val + b.val : Nat) : Int) 2048) 2048 = 0 ∧ bitsR .and .i64 (dropB (dropB ((64 * a.val + b.val : Nat) : Int) 2048) 1024) 2048 = 0 := by decide +kernel
theorem dropS {m : Int} (h : 0 ≤ m ∧ m ≤ 4095) : bitsR .and .i64 (dropB m 2048) 2048 = 0 ∧ bitsR .and .i64 (dropB (dropB m 2048) 1024) 2048 = 0 := by
  have := dropS_all ⟨m.toNat / 64, by omega⟩ ⟨m.toNat % 64, by omega⟩
  simp only at this
  rw [show ((64 * (m.toNat / 64) + m.toNat % 64 : Nat) : Int) = m by omega] at this
  exact this
theorem written_suid {c : Cred} (hc : ¬ c.uid = 0) (mode : Int) : bitsR .and .i64 (c.written 1 mode) 2048 = 0 := by
  have h := dropS (m := mode % 4096) (by omega)
  unfold Cred.written Cred.root
  rw [decide_eq_false hc, if_neg (by decide)]
  split
  · exact h.1
  · exact h.2
theorem chown_theirs {T : Tab} (hg : T.good) {c : Cred} (hc : ¬ c.uid = 0) (path : ByteArray) (uid gid : Int) (fo : Bool) (i : Int) :
    (T.at i).uid = ((T.chown c path uid gid fo).2.at i).uid ∧ (¬ (T.at i).uid = c.uid → (T.at i).mode = ((T.chown c path uid gid fo).2.at i).mode ∧ (T.at i).gid = ((T.chown c path uid gid fo).2.at i).gid) ∧
    (¬ (T.at i).gid = ((T.chown c path uid gid fo).2.at i).gid → ((T.chown c path uid gid fo).2.at i).kind = 1 → bitsR .and .i64 ((T.chown c path uid gid fo).2.at i).mode 2048 = 0) := by
  have triv : (T.at i).uid = (T.at i).uid ∧ (¬ (T.at i).uid = c.uid → (T.at i).mode = (T.at i).mode ∧ (T.at i).gid = (T.at i).gid) ∧ (¬ (T.at i).gid = (T.at i).gid → (T.at i).kind = 1 → bitsR .and .i64 (T.at i).mode 2048 = 0) :=
    ⟨rfl, fun _ => ⟨rfl, rfl⟩, fun h => absurd rfl h⟩
  unfold Tab.chown
  split
  · exact triv
  · rename_i h0
    unfold Tab.cho
    split
    · exact triv
    · split
      · exact triv
      · rename_i h2
        have hh : T.has (T.resolve c path fo).1.node = true := by simpa using h2
        split
        · exact triv
        · rename_i h3
          split
          · exact triv
          · obtain ⟨-, a2, -⟩ := like_put hg hh (newOwn_ok hg hh c (uid := uid) (gid := gid) (by omega) (by omega)) rfl rfl rfl
            dsimp only
            rw [a2]
            by_cases e : i = (T.resolve c path fo).1.node
            · rw [if_pos e, ← e]
              have hm : c.mayOwn (T.at i).uid (T.at i).gid uid gid = true := by rw [e]; simpa using h3
              unfold Cred.mayOwn Cred.root at hm
              rw [decide_eq_false hc, Bool.false_or] at hm
              simp only [Bool.and_eq_true, Bool.or_eq_true, decide_eq_true_eq] at hm
              obtain ⟨⟨m1, m2⟩, m3⟩ := hm
              refine ⟨?_, fun q => absurd m1 q, fun _ hk => ?_⟩
              · unfold newOwn
                simp only
                split
                · rcases m2 with m2 | m2 <;> omega
                · rfl
              · unfold newOwn at hk ⊢
                simp only at hk ⊢
                rw [hk]
                exact written_suid hc _
            · rw [if_neg e]; exact triv
theorem chmod_theirs {T : Tab} (hg : T.good) (ht : T.tree) {c : Cred} (hc : ¬ c.uid = 0) (path : ByteArray) (mode : Int) (i : Int) :
    ¬ (T.at i).mode = ((T.chmod c path mode).2.at i).mode → (T.at i).uid = c.uid ∧ ¬ ((T.chmod c path mode).2.at i).kind = 3 := by
  unfold Tab.chmod
  split
  · exact fun h => absurd rfl h
  · unfold Tab.chm
    split
    · exact fun h => absurd rfl h
    · rename_i h1
      have h1' := Decidable.of_not_not h1
      split
      · exact fun h => absurd rfl h
      · rename_i h2
        have hh : T.has (T.resolve c path true).1.node = true := by simpa using h2
        split
        · exact fun h => absurd rfl h
        · rename_i h3
          have hnl := found_nolink hg ht h1'
          obtain ⟨-, a2, -⟩ := like_put hg hh (newMode_ok hg hh hnl c mode) rfl rfl rfl
          dsimp only
          rw [a2]
          by_cases e : i = (T.resolve c path true).1.node
          · rw [if_pos e]
            intro _
            have hm : c.mayMode (T.at i).uid = true := by rw [e]; simpa using h3
            unfold Cred.mayMode Cred.root at hm
            rw [decide_eq_false hc, Bool.false_or, decide_eq_true_eq] at hm
            exact ⟨hm, hnl⟩
          · rw [if_neg e]; exact fun h => absurd rfl h
end Abs
end Go.Proofs.Ytkopeigfjjbajaa

set_option linter.unusedVariables false
namespace Go.Proofs.Ytkopeigfjjbajaa
namespace Abs
set_option linter.unusedSimpArgs false
set_option maxRecDepth 10000
set_option maxHeartbeats 2000000
attribute [local irreducible] AOps AW AP ACalls thenQ inBlk noGoto

/-! ### AttrTheirs -/
theorem attrTheirs_c {room : Int} {l : List Raw} (hl : l.length ≤ 9223372036854775807) {c : Cred} {path : ByteArray} {mo u g : Int} {fo : Bool} {H : AHeap} {K : AVal → AHeap → Prop} (hK : K (.b true) H) :
    ACalls Try.prog 4 [.i room, .sl (encRaws l) .no, .agg (encCred c), .s path, .i mo, .i u, .i g, .b fo] H K := by
  refine acalls_body Try.func4 rfl rfl rfl ?_
  repeat first|apply w6|apply w7
  refine s_box rfl rfl rfl (fun b10 hb10 => ?_); have hb := hb10; (try simp only [put_none_iff, prot_none_iff] at hb); (repeat obtain ⟨_, _, hb⟩ := hb)
  repeat first|(apply x1;apply r0;apply r0)|(apply x9;apply r0)|apply w4|apply w6|apply w7|apply w5
  refine awake13_c ?_
  repeat first|(apply gO;first|(apply x1;apply r0;apply r0)|(apply x2;apply r0;(apply q0);apply r0)|(apply x9;apply r0)|apply w4)|(apply gW;first|apply w6|apply w7|(apply w9;apply r0)|apply wa)|apply w5
  refine built13_c hl ?_ (fun T t hB ht => ?_)
  · repeat first|(apply gO;first|(apply x1;apply r0;apply r0)|apply w4|(apply w3;apply r0;apply r0))|(apply gW;first|apply w6|apply w7|(apply w8;apply r0)|apply wd)|apply w5|apply we
    exact rt1 (H' := H) rfl rfl (.refl _) (by repeat first|exact s0|(apply su1;assumption)) hK
  have hg := hB.good
  have hc := hB.small
  have htr := build_tree hB.tree
  have nb7 : b10 ≠ t := by
    have := (put_none_iff.1 ht)
    exact this.2.1
  have ht' : H t = none := (put_none_iff.1 ht).2.2
  repeat first|(apply x1;apply r0;apply r0)|(apply x5;apply r0)|apply w4|apply w6|apply w7|apply w5
  refine s_gsplit rfl rfl (fun g1 => ?_) (fun g1 => ?_)<;>first|replace g1:=of_decide_eq_true g1|replace g1:=of_decide_eq_false g1
  · repeat first|(apply gO;first|(apply x1;apply r0;apply r0)|apply w4|(apply w3;apply r0;apply r0))|(apply gW;first|apply w6|apply w7|(apply w8;apply r0)|apply wd)|apply w5|apply we
    exact rt1 (H' := H) rfl rfl (.refl _) (by repeat first|exact s0|(apply su1;assumption)) hK
  repeat first|(apply x1;apply r0;apply r0)|(apply x2;apply r0;(with_reducible repeat first|assumption|apply q0|apply q3);apply r0)|(apply x5;apply r0)|apply w4|apply w5
  refine aw_cond rfl (fun g2 => ?_) (fun g2 => ?_)<;>first|replace g2:=of_decide_eq_true g2|replace g2:=of_decide_eq_false g2
  · repeat first|(apply x1;apply r0;apply r0)|apply w4|apply w6|apply w7|apply wd|apply w5|apply we
    exact rt1 (H' := H) rfl rfl (.refl _) (by repeat first|exact s0|(apply su1;assumption)) hK
  repeat first|(apply x1;apply r0;apply r0)|(apply x9;apply r0)|apply w6|apply w7|apply wa|apply w5
  refine clone_c hg.wf (by apply q0) (fun v hv => ?_)
  generalize hX : AHeap.put _ t _ = X at hv ⊢
  have zT : X t = some (.cells (encTab T)) := by rw [← hX]; exact (by apply get_eq;(focus apply ps);rfl)
  have z10 : Rd X b10 (encCred c) := by rw [← hX]; exact (by apply rd_eq;(focus with_reducible repeat first|assumption|apply q0|apply q3);rfl)
  have zs : H.sub X := by rw [← hX]; exact (by repeat first|exact s0|(apply su1;assumption))
  clear hX
  have fv : H v = none := sub_none zs hv
  have ntv : t ≠ v := get_ne zT hv
  have nvt : v ≠ t := Ne.symm ntv
  have n10v : b10 ≠ v := rd_ne z10 hv
  repeat first|(apply x1;apply r0;apply r0)|(apply x2;apply r0;(with_reducible repeat first|assumption|apply q3);apply r0)|(apply x9;apply r0)|apply w4|apply w6|apply w7|apply w5
  refine chown_c hg hc (by with_reducible repeat first|assumption|apply gp) ?_
  have hF := chown_theirs hg g2 path u g fo
  obtain ⟨hg1, l1⟩ := chown_like hg c path u g fo
  generalize T.chown c path u g fo = A at hF hg1 l1 ⊢
  have htr1 := l1.tree htr
  generalize hY : AHeap.put _ t _ = Y
  have yT : Y t = some (.cells (encTab A.2)) := by rw [← hY]; exact (by apply get_eq;(focus apply ps);rfl)
  have y10 : Rd Y b10 (encCred c) := by rw [← hY]; exact (by apply rd_eq;(focus with_reducible repeat first|assumption|apply q3);rfl)
  have yv : Rd Y v (encTab T) := by rw [← hY]; exact (by apply rd_eq;(focus with_reducible repeat first|assumption|apply q0|apply q3);rfl)
  have ys : H.sub Y := by rw [← hY]; exact (by repeat first|assumption|(apply su1;assumption))
  clear hY
  have hw1 := hg1.wf
  have h24 := hw1.2.1
  repeat first|(apply x1;apply r0;apply r0)|apply w4|apply w6|apply w7|apply wb|apply w5
  refine aw_loop (fun k : Nat => k = 0 ∨ (k : Int) ≤ A.2.room) (fun k => [(3, .s path), (4, .i mo), (10, .ptr b10 0), (18, .ptr t 0), (20, .ptr v 0), (21, .i A.1), (22, .i ((k : Int) + 1))]) (fun _ => Y) (fun k => A.2.room.toNat - k) 0 (.inl rfl) (by repeat (first | exact Fr.sub_nil _ | refine Fr.sub_cons rfl ?_)) (AHeap.sub_refl _) ?_
  intro k hk
  repeat first|(apply x1;apply r0;apply r0)|(apply x9;apply r0)|apply w6|apply w7
  refine room_c (by with_reducible repeat exact q1 ‹_›) ?_
  repeat first|(apply x1;apply r0;apply r0)|apply w4|apply w5
  refine aw_cond rfl (fun c1 => ?_) (fun c1 => ?_)<;>first|replace c1:=of_decide_eq_true c1|replace c1:=of_decide_eq_false c1
  · have c1' : (k : Int) + 1 ≤ A.2.room := by omega
    have hkk : (((k + 1 : Nat) : Int)) = (k : Int) + 1 := by omega
    obtain ⟨F1, F2, F3⟩ := hF ((k : Int) + 1)
    repeat first|(apply x1;apply r0;apply r0)|(apply x9;apply r0)|apply w6|apply w7|apply wa|apply wb|apply w5
    refine tget_c hg.wf (by with_reducible assumption) ?_
    repeat (apply x1;apply r0;apply r0)
    refine s_alloc tk rfl rfl rfl (fun b23 hb23 => ?_); have hb := hb23; (try simp only [put_none_iff, prot_none_iff] at hb); (repeat obtain ⟨_, _, hb⟩ := hb)
    repeat first|(apply x1;apply r0;apply r0)|(apply xst;apply r0;(apply ps);apply r0)|(apply x9;apply r0)|apply w4|apply w6|apply w7|apply w5
    refine tget_c hw1 (by with_reducible repeat first|exact q1 ‹_›|apply q3|exact n2 ‹_› ‹_›) ?_
    repeat (apply x1;apply r0;apply r0)
    refine s_alloc tk rfl rfl rfl (fun b25 hb25 => ?_); have hb := hb25; (try simp only [put_none_iff, prot_none_iff] at hb); (repeat obtain ⟨_, _, hb⟩ := hb)
    repeat first|(apply x1;apply r0;apply r0)|(apply x2;apply r0;(with_reducible repeat first|assumption|apply q0|apply ps|apply q3);apply r0)|(apply xst;apply r0;(with_reducible repeat first|assumption|apply q0|apply ps|apply q3);apply r0)|apply w4|apply w6|apply w7|apply w5
    refine s_gsplit rfl rfl (fun v1 => ?_) (fun v1 => ?_)<;>first|replace v1:=not_t v1|replace v1:=not_f v1
    case refine_1 => exact absurd F1 v1
    repeat first|(apply x1;apply r0;apply r0)|(apply x2;apply r0;(with_reducible repeat first|assumption|apply q0|apply q3|exact n1 ‹_› ‹_›);apply r0)|(apply x5;apply r0)
    refine s_gsplit rfl rfl (fun v2 => ?_) (fun v2 => ?_)<;>first|replace v2:=not_t v2|replace v2:=not_f v2
    · obtain ⟨E1, E2⟩ := F2 v2
      repeat first|(apply x1;apply r0;apply r0)|(apply x2;apply r0;(with_reducible repeat first|assumption|apply q0|apply q3);apply r0)|(apply x5;apply r0)
      refine s_gsplit rfl rfl (fun v3 => ?_) (fun v3 => ?_)<;>first|replace v3:=not_t v3|replace v3:=not_f v3
      case refine_1 => exact absurd E1 v3
      repeat first|(apply x1;apply r0;apply r0)|(apply x2;apply r0;(with_reducible repeat first|assumption|apply q0|apply q3);apply r0)|(apply x5;apply r0)
      refine s_gsplit rfl rfl (fun v4 => ?_) (fun v4 => ?_)<;>first|replace v4:=not_t v4|replace v4:=not_f v4
      case refine_1 => exact absurd E2 v4
      repeat first|(apply x1;apply r0;apply r0)|(apply x5;apply r0)
      refine s_gsplit rfl rfl (fun v5 => ?_) (fun v5 => ?_)<;>first|replace v5:=of_decide_eq_true v5|replace v5:=of_decide_eq_false v5
      · repeat first|(apply x1;apply r0;apply r0)|(apply x2;apply r0;(with_reducible repeat first|assumption|apply q0|apply q3);apply r0)|(apply x5;apply r0)
        refine s_gsplit rfl rfl (fun v6 => ?_) (fun v6 => ?_)<;>first|replace v6:=not_t v6|replace v6:=not_f v6
        case refine_1 => exact absurd E2 v6
        repeat first|(apply gO;first|(apply x1;apply r0;apply r0)|(apply x5;apply r0)|apply w4|(apply w3;apply r0;apply r0)|(apply x6;apply r0;omega))|(apply gW;first|apply w7|(apply w9;apply r0)|apply wa)|apply w5|apply wg
        exact ⟨k + 1, by omega, by omega, (by repeat (first | exact Fr.sub_nil _ | refine Fr.sub_cons rfl ?_)), (by repeat first|exact s0|(apply su1;assumption))⟩
      · repeat first|(apply gO;first|(apply x1;apply r0;apply r0)|(apply x5;apply r0)|apply w4|(apply w3;apply r0;apply r0)|(apply x6;apply r0;omega))|(apply gW;first|apply w7|(apply w9;apply r0)|apply wa)|apply w5|apply wg
        exact ⟨k + 1, by omega, by omega, (by repeat (first | exact Fr.sub_nil _ | refine Fr.sub_cons rfl ?_)), (by repeat first|exact s0|(apply su1;assumption))⟩
    · repeat first|(apply x1;apply r0;apply r0)|(apply x5;apply r0)|(apply w3;apply r0;apply r0)
      refine s_gsplit rfl rfl (fun v5 => ?_) (fun v5 => ?_)<;>first|replace v5:=of_decide_eq_true v5|replace v5:=of_decide_eq_false v5
      · repeat first|(apply x1;apply r0;apply r0)|(apply x2;apply r0;(with_reducible repeat first|assumption|apply q0|apply q3);apply r0)|(apply x5;apply r0)
        refine s_gsplit rfl rfl (fun v6 => ?_) (fun v6 => ?_)<;>first|replace v6:=not_t v6|replace v6:=not_f v6
        · repeat first|(apply x1;apply r0;apply r0)|(apply x2;apply r0;(apply q0);apply r0)|(apply x5;apply r0)
          refine s_gsplit rfl rfl (fun v7 => ?_) (fun v7 => ?_)<;>first|replace v7:=of_decide_eq_true v7|replace v7:=of_decide_eq_false v7
          · repeat first|(apply x1;apply r0;apply r0)|(apply x2;apply r0;(apply q0);apply r0)|(apply x5;apply r0)
            refine s_bits rfl rfl rfl rfl ?_
            rw [F3 v6 v7]
            repeat first|(apply gO;first|(apply x1;apply r0;apply r0)|(apply x5;apply r0)|apply w4|(apply x6;apply r0;omega))|(apply gW;first|apply w7|(apply w9;apply r0)|apply wa)|apply w5|apply wg
            exact ⟨k + 1, by omega, by omega, (by repeat (first | exact Fr.sub_nil _ | refine Fr.sub_cons rfl ?_)), (by repeat first|exact s0|(apply su1;assumption))⟩
          · repeat first|(apply gO;first|(apply x1;apply r0;apply r0)|(apply x5;apply r0)|apply w4|(apply w3;apply r0;apply r0)|(apply x6;apply r0;omega))|(apply gW;first|apply w7|(apply w9;apply r0)|apply wa)|apply w5|apply wg
            exact ⟨k + 1, by omega, by omega, (by repeat (first | exact Fr.sub_nil _ | refine Fr.sub_cons rfl ?_)), (by repeat first|exact s0|(apply su1;assumption))⟩
        · repeat first|(apply gO;first|(apply x1;apply r0;apply r0)|(apply x5;apply r0)|apply w4|(apply w3;apply r0;apply r0)|(apply x6;apply r0;omega))|(apply gW;first|apply w7|(apply w9;apply r0)|apply wa)|apply w5|apply wg
          exact ⟨k + 1, by omega, by omega, (by repeat (first | exact Fr.sub_nil _ | refine Fr.sub_cons rfl ?_)), (by repeat first|exact s0|(apply su1;assumption))⟩
      · repeat first|(apply gO;first|(apply x1;apply r0;apply r0)|(apply x5;apply r0)|apply w4|(apply w3;apply r0;apply r0)|(apply x6;apply r0;omega))|(apply gW;first|apply w7|(apply w9;apply r0)|apply wa)|apply w5|apply wg
        exact ⟨k + 1, by omega, by omega, (by repeat (first | exact Fr.sub_nil _ | refine Fr.sub_cons rfl ?_)), (by repeat first|exact s0|(apply su1;assumption))⟩
  repeat first|(apply gO;first|(apply x1;apply r0;apply r0)|(apply x9;apply r0))|(apply gW;first|apply w6|apply w7|apply wc)|apply w5|apply wf|apply wh
  refine clone_c hg1.wf (by with_reducible repeat exact q1 ‹_›) (fun w hw => ?_)
  have zw : H w = none := sub_none ys hw
  have ntw : t ≠ w := get_ne yT hw
  have nwt : w ≠ t := Ne.symm ntw
  have n10w : b10 ≠ w := rd_ne y10 hw
  repeat first|(apply x1;apply r0;apply r0)|(apply x2;apply r0;(with_reducible repeat first|assumption|apply q3);apply r0)|(apply x9;apply r0)|apply w4|apply w6|apply w7|apply w5
  refine chmod_c hg1 htr1 hc (by with_reducible repeat first|assumption|apply gp) ?_
  have hG := chmod_theirs hg1 htr1 g2 path mo
  obtain ⟨hg2, l2⟩ := chmod_like hg1 htr1 c path mo
  generalize A.2.chmod c path mo = B at hG hg2 l2 ⊢
  generalize hZ : AHeap.put _ t _ = Z
  have zT' : Rd Z t (encTab B.2) := by rw [← hZ]; exact (by apply rd_eq;(focus apply q0);rfl)
  have z10' : Rd Z b10 (encCred c) := by rw [← hZ]; exact (by apply rd_eq;(focus with_reducible repeat first|assumption|apply q3);rfl)
  have zv' : Rd Z w (encTab A.2) := by rw [← hZ]; exact (by apply rd_eq;(focus with_reducible repeat first|assumption|apply q0|apply q3);rfl)
  have zs' : H.sub Z := by rw [← hZ]; exact (by repeat first|assumption|(apply su1;assumption))
  clear hZ
  have hw2 := hg2.wf
  have h24' := hw2.2.1
  repeat first|(apply x1;apply r0;apply r0)|apply w4|apply w6|apply w7|apply wb|apply w5
  refine aw_loop (fun k : Nat => k = 0 ∨ (k : Int) ≤ B.2.room) (fun k => [(10, .ptr b10 0), (18, .ptr t 0), (20, .ptr w 0), (27, .i ((k : Int) + 1))]) (fun _ => Z) (fun k => B.2.room.toNat - k) 0 (.inl rfl) (by repeat (first | exact Fr.sub_nil _ | refine Fr.sub_cons rfl ?_)) (AHeap.sub_refl _) ?_
  intro k hk
  repeat first|(apply x1;apply r0;apply r0)|(apply x9;apply r0)|apply w6|apply w7
  refine room_c (by with_reducible assumption) ?_
  repeat first|(apply x1;apply r0;apply r0)|apply w4|apply w5
  refine aw_cond rfl (fun c1 => ?_) (fun c1 => ?_)<;>first|replace c1:=of_decide_eq_true c1|replace c1:=of_decide_eq_false c1
  · have c1' : (k : Int) + 1 ≤ B.2.room := by omega
    have hkk : (((k + 1 : Nat) : Int)) = (k : Int) + 1 := by omega
    have G1 := hG ((k : Int) + 1)
    repeat first|(apply x1;apply r0;apply r0)|(apply x9;apply r0)|apply w6|apply w7|apply wa|apply wb|apply w5
    refine tget_c hw1 (by with_reducible assumption) ?_
    repeat (apply x1;apply r0;apply r0)
    refine s_alloc tk rfl rfl rfl (fun b28 hb28 => ?_); have hb := hb28; (try simp only [put_none_iff, prot_none_iff] at hb); (repeat obtain ⟨_, _, hb⟩ := hb)
    repeat first|(apply x1;apply r0;apply r0)|(apply xst;apply r0;(apply ps);apply r0)|(apply x9;apply r0)|apply w4|apply w6|apply w7|apply w5
    refine tget_c hw2 (by with_reducible repeat first|assumption|apply q3|exact n1 ‹_› ‹_›) ?_
    repeat (apply x1;apply r0;apply r0)
    refine s_alloc tk rfl rfl rfl (fun b30 hb30 => ?_); have hb := hb30; (try simp only [put_none_iff, prot_none_iff] at hb); (repeat obtain ⟨_, _, hb⟩ := hb)
    repeat first|(apply x1;apply r0;apply r0)|(apply x2;apply r0;(with_reducible repeat first|assumption|apply q0|apply ps|apply q3);apply r0)|(apply xst;apply r0;(with_reducible repeat first|assumption|apply q0|apply ps|apply q3);apply r0)|apply w4|apply w6|apply w7|apply w5
    refine s_gsplit rfl rfl (fun v1 => ?_) (fun v1 => ?_)<;>first|replace v1:=not_t v1|replace v1:=not_f v1
    · obtain ⟨E1, E2⟩ := G1 v1
      repeat first|(apply x1;apply r0;apply r0)|(apply x2;apply r0;(with_reducible repeat first|assumption|apply q0|apply q3|exact n1 ‹_› ‹_›);apply r0)|(apply x5;apply r0)
      refine s_gsplit rfl rfl (fun v2 => ?_) (fun v2 => ?_)<;>first|replace v2:=not_t v2|replace v2:=not_f v2
      case refine_1 => exact absurd E1 v2
      repeat first|(apply x1;apply r0;apply r0)|(apply x2;apply r0;(apply q0);apply r0)|(apply x5;apply r0)|apply w4|apply w5
      refine aw_cond rfl (fun v3 => ?_) (fun v3 => ?_)<;>first|replace v3:=of_decide_eq_true v3|replace v3:=of_decide_eq_false v3
      · exact absurd v3 E2
      repeat first|(apply x1;apply r0;apply r0)|apply w4|(apply x6;apply r0;omega)|apply w7|apply wa|apply w5|apply wg
      exact ⟨k + 1, by omega, by omega, (by repeat (first | exact Fr.sub_nil _ | refine Fr.sub_cons rfl ?_)), (by repeat first|exact s0|(apply su1;assumption))⟩
    · repeat first|(apply gO;first|(apply x1;apply r0;apply r0)|apply w4|(apply w3;apply r0;apply r0)|(apply x6;apply r0;omega))|(apply gW;first|apply w7|(apply w9;apply r0)|apply wa)|apply w5|apply wg
      exact ⟨k + 1, by omega, by omega, (by repeat (first | exact Fr.sub_nil _ | refine Fr.sub_cons rfl ?_)), (by repeat first|exact s0|(apply su1;assumption))⟩
  repeat first|(apply gO;first|(apply x1;apply r0;apply r0)|apply w4)|(apply gW;first|apply w6|apply w7|apply wd|apply wc)|apply w5|apply wf|apply wh
  exact rt1 (H' := H) rfl rfl (.refl _) (by repeat assumption) hK
end Abs
end Go.Proofs.Ytkopeigfjjbajaa
