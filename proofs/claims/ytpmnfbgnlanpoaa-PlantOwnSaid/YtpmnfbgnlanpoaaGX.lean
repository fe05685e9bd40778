import Derived.Test.YtpmnfbgnlanpoaaW2
import Derived.Test.YtpmnfbgnlanpoaaGC
import Derived.Test.YtpmnfbgnlanpoaaY1
import Derived.Test.YtpmnfbgnlanpoaaXL
set_option linter.unusedVariables false
namespace Go.Proofs.Ytpmnfbgnlanpoaa
namespace Abs
set_option maxRecDepth 10000
/-! ### PlantOwn: plain law -/
structure OwnOk (T : Tab) (c : Cred) (umask : Int) (U : Tab) (S : Stat × Int) : Prop where
  err : S.2 = 0
  uid : S.1.uid = c.uid
  links : S.1.links = 1
  suid : bitsR .and .i64 S.1.mode 2048 = 0
  mask : S.1.kind = 3 ∨ bitsR .and .i64 (bitsR .and .i64 S.1.mode umask) 511 = 0
  used : U.used = T.used + 1
  right : U.right [] = true
  new : T.has S.1.node = false
  par : ∀ i, i ≠ S.1.node → i = U.parent S.1.node → (U.at i).ents.length = (T.at i).ents.length + 1 ∧ { U.at i with ents := (T.at i).ents } = T.at i
  rest : ∀ i, i ≠ S.1.node → i ≠ U.parent S.1.node → U.at i = T.at i
structure OwnL (T : Tab) (c : Cred) (path : ByteArray) (umask : Int) (R : Tab × Int) : Prop where
  good : R.1.good
  err : ¬ R.2 = 0 → R.1 = T
  ok : R.2 = 0 → OwnOk T c umask R.1 (R.1.look c path false)
theorem own_law {T : Tab} (hg : T.good) (ht : T.tree) {c : Cred} {path : ByteArray} {umask : Int} {mk : Node → Node}
    (hm : ∀ d, 0 ≤ d.mode ∧ d.mode ≤ 4095 → (mk d).ents = [] ∧ bitsR .and .i64 (mk d).mode 2048 = 0 ∧ ((mk d).kind = 3 ∨ bitsR .and .i64 (bitsR .and .i64 (mk d).mode umask) 511 = 0)) (he : ∀ d, (mk d).ents = []) :
    OwnL T c path umask ((T.plant c (T.resolve c path false) mk).1, (T.plant c (T.resolve c path false) mk).2.2) := by
  refine ⟨plant_good hg _ _ _, fun h => plant_none hg _ _ _ h, fun h => ?_⟩
  have hf := plant_found hg ht he h
  obtain ⟨a1, a2, a3⟩ := plant_ok hg c _ mk h
  simp only
  generalize (T.plant c (T.resolve c path false) mk).1 = U at *
  generalize (T.plant c (T.resolve c path false) mk).2.1 = id at *
  generalize hr : (T.resolve c path false).1 = r at *
  obtain ⟨_, m2, m3⟩ := hm (T.at r.dir) (ok_idsW (dir_rising hg a3.dir).2.1).1
  obtain ⟨t1, t2, t3⟩ := plant_tree hg ht a3 (he _)
  have hat : U.at id = madeIn c (T.at r.dir) (mk (T.at r.dir)) := by rw [a3.at_, if_neg (fun q => a3.ne q.symm), if_pos rfl]
  have hid : U.has id = true := has_kind'.2 (by rw [hat]; exact ok_kind a3.ok)
  have hL : U.look c path false = (U.stat id, 0) := by
    unfold Tab.look
    rw [hf]
    dsimp only
    rw [if_pos rfl, if_pos hid]
  have hst : U.stat id = ⟨id, (U.at id).kind, (U.at id).mode, (U.at id).uid, (U.at id).gid, U.links id, (U.at id).size⟩ := by unfold Tab.stat; rw [if_pos hid]
  rw [hL, hst, hat]
  refine ⟨rfl, rfl, t2, m2, m3, a3.used, (right_iff a3.good).2 t1, a3.new, fun i hi hp => ?_, fun i hi hp => ?_⟩
  · simp only at hi hp
    rw [t3] at hp
    rw [a3.at_, if_pos hp, withN_ents a3.with_, hp]
    exact ⟨insE_len _ _, rfl⟩
  · simp only at hi hp
    rw [t3] at hp
    rw [a3.at_, if_neg hp, if_neg hi]
theorem own_dir {T : Tab} (hg : T.good) (ht : T.tree) (c : Cred) (path : ByteArray) {umask : Int} (hu : 0 ≤ umask ∧ umask ≤ 65535) (mode : Int) : OwnL T c path umask ((T.plant c (T.resolve c path false) (dirN mode umask)).1, (T.plant c (T.resolve c path false) (dirN mode umask)).2.2) :=
  own_law hg ht (fun d hd => ⟨rfl, (dirMode_ok mode umask d hd).suid, .inr ((dirMode_ok mode umask d hd).mask hu)⟩) (fun _ => rfl)
theorem own_file {T : Tab} (hg : T.good) (ht : T.tree) (c : Cred) (path : ByteArray) {umask : Int} (hu : 0 ≤ umask ∧ umask ≤ 65535) (mode : Int) : OwnL T c path umask ((T.plant c (T.resolve c path false) (fun _ => fileN mode umask)).1, (T.plant c (T.resolve c path false) (fun _ => fileN mode umask)).2.2) :=
  own_law hg ht (fun d hd => ⟨rfl, (fileMode_ok mode umask).suid, .inr ((fileMode_ok mode umask).mask hu)⟩) (fun _ => rfl)
theorem own_link {T : Tab} (hg : T.good) (ht : T.tree) (c : Cred) (path : ByteArray) (umask : Int) : OwnL T c path umask (T.symlink c ⟨#[113]⟩ path) := by
  rw [symlink_q]
  exact own_law hg ht (fun d hd => ⟨rfl, by decide, .inl rfl⟩) (fun _ => rfl)
end Abs
end Go.Proofs.Ytpmnfbgnlanpoaa

set_option linter.unusedVariables false
namespace Go.Proofs.Ytpmnfbgnlanpoaa
namespace Abs
set_option linter.unusedSimpArgs false
set_option maxRecDepth 10000
set_option maxHeartbeats 2000000
attribute [local irreducible] AOps AW AP ACalls thenQ inBlk noGoto

/-! ### PlantOwn -/
theorem plantOwn_c {room : Int} {l : List Raw} (hl : l.length ≤ 9223372036854775807) {c : Cred} {umask : Int} (hu : 0 ≤ umask ∧ umask ≤ 65535) {path : ByteArray} {mode : Int} (hm : 0 ≤ mode ∧ mode ≤ 65535) {kd : Int} (hkd : 0 ≤ kd ∧ kd ≤ 255) {H : AHeap} {K : AVal → AHeap → Prop} (hK : K (.b true) H) :
    ACalls Try.prog 5 [.i room, .sl (encRaws l) .no, .agg (encCred c), .sc (.int .u16 umask), .s path, .sc (.int .u16 mode), .sc (.int .u8 kd)] H K := by
  refine acalls_body Try.func5 rfl rfl rfl ?_
  repeat first|apply w6|apply w7
  refine s_box rfl rfl rfl (fun b9 hb9 => ?_); have hb := hb9; (try simp only [put_none_iff, prot_none_iff] at hb); (repeat obtain ⟨_, _, hb⟩ := hb)
  repeat first|(apply x1;apply r0;apply r0)|(apply x9;apply r0)|apply w4|apply w6|apply w7|apply w5
  refine awake14_c ?_
  repeat first|(apply gO;first|(apply x1;apply r0;apply r0)|(apply x2;apply r0;(apply q0);apply r0)|(apply x9;apply r0)|apply w4)|(apply gW;first|apply w6|apply w7|(apply w9;apply r0)|apply wa)|apply w5
  refine built14_c hl ?_ (fun T t hB ht => ?_)
  · repeat first|(apply gO;first|(apply x1;apply r0;apply r0)|apply w4|(apply w3;apply r0;apply r0))|(apply gW;first|apply w6|apply w7|(apply w8;apply r0)|apply wd)|apply w5|apply we
    exact rt1 (H' := H) rfl rfl (.refl _) (by repeat first|exact s0|(apply su1;assumption)) hK
  have hg := hB.good
  have hc := hB.small
  have htr := build_tree hB.tree
  have nb7 : b9 ≠ t := by
    have := (put_none_iff.1 ht)
    exact this.2.1
  have ht' : H t = none := (put_none_iff.1 ht).2.2
  repeat first|(apply x1;apply r0;apply r0)|(apply x5;apply r0)|apply w4|apply w6|apply w7|apply w5
  refine aw_cond rfl (fun g1 => ?_) (fun g1 => ?_)<;>first|replace g1:=of_decide_eq_true g1|replace g1:=of_decide_eq_false g1
  · repeat first|(apply x1;apply r0;apply r0)|apply w4|apply w6|apply w7|apply wd|apply w5|apply we
    exact rt1 (H' := H) rfl rfl (.refl _) (by repeat first|exact s0|(apply su1;assumption)) hK
  repeat first|(apply x1;apply r0;apply r0)|(apply x9;apply r0)|apply w6|apply w7|apply wa|apply w5
  refine clone_c hg.wf (by apply q0) (fun u hu0 => ?_)
  generalize hX : AHeap.put _ t _ = X at hu0 ⊢
  have xT' : X t = some (.cells (encTab T)) := by rw [← hX]; exact (by apply get_eq;(focus apply ps);rfl)
  have x9' : Rd X b9 (encCred c) := by rw [← hX]; exact (by apply rd_eq;(focus with_reducible repeat first|assumption|apply q0|apply q3);rfl)
  have xss : H.sub X := by rw [← hX]; exact (by repeat first|exact s0|(apply su1;assumption))
  clear hX
  have fu : H u = none := sub_none xss hu0
  have ntu : t ≠ u := get_ne xT' hu0
  have nut : u ≠ t := Ne.symm ntu
  have n9u : b9 ≠ u := rd_ne x9' hu0
  generalize hX2 : AHeap.put _ u _ = X2
  have zT2 : X2 t = some (.cells (encTab T)) := by rw [← hX2]; exact (by apply get_eq;(focus with_reducible repeat first|assumption|apply gp);rfl)
  have z92 : Rd X2 b9 (encCred c) := by rw [← hX2]; exact (by apply rd_eq;(focus with_reducible repeat first|assumption|apply q3);rfl)
  have zu2 : X2 u = some (.cells (encTab T)) := by rw [← hX2]; exact (by apply get_eq;(focus apply ps);rfl)
  have zs2 : H.sub X2 := by rw [← hX2]; exact (by repeat first|assumption|(apply su1;assumption))
  clear hX2
  repeat first|(apply x1;apply r0;apply r0)|apply w4|apply w6|apply w7|apply w5
  refine s_rem rfl rfl rfl (by decide) hkd.1 ?_
  repeat (apply gO;first|(apply x1;apply r0;apply r0)|((first|apply x2|apply xst);apply r0;(with_reducible repeat first|assumption|apply q0|apply ps|exact q1 ‹_›|exact q2 ‹_›|apply q4|apply pg|apply q3|apply gp|apply gq|exact n1 ‹_› ‹_›|exact n2 ‹_› ‹_›|exact n3 ‹_› ‹_›|exact n4 ‹_› ‹_›|apply nm1|exact nm0|exact mm0|apply mm1);apply r0)|((first|apply x3|apply x5|apply x8|apply xbd|apply xbs|apply x9);apply r0)|apply w4|(apply w3;apply r0;apply r0)|((first|apply x6|apply x7);apply r0;omega))
  first | apply w7 | apply w5 | apply wl | apply wg | apply we | apply wf | apply wh | apply wj | apply wm | apply wn | apply wa | apply wd | apply wb | apply wc | apply wk
  repeat apply w6
  refine aw_cutS (fun F' H' => ∃ R : Tab × Int, OwnL T c path umask R ∧ Fr.sub [(3, .sc (.int .u16 umask)), (4, .s path), (9, .ptr b9 0), (16, .ptr t 0), (18, .ptr u 0), (19, .i R.2)] F' ∧ (X2.put t (.cells (encTab R.1))).sub H') ?_ ?_
  · repeat first|(apply x1;apply r0;apply r0)|apply w4|apply w6|apply w7|apply wb|apply w5
    refine aw_cond rfl (fun c0 => ?_) (fun c0 => ?_)<;>first|replace c0:=of_decide_eq_true c0|replace c0:=of_decide_eq_false c0
    · have hO := own_dir hg htr c path hu mode
      repeat first|(apply x1;apply r0;apply r0)|(apply x2;apply r0;(with_reducible assumption);apply r0)|apply w7
      refine s_conv (r := umask) tk rfl rfl rfl rfl (wrap_id ⟨by omega, by omega⟩) ?_
      repeat (apply x1;apply r0;apply r0)
      refine s_conv (r := mode) tk rfl rfl rfl rfl (wrap_id ⟨by omega, by omega⟩) ?_
      repeat (apply x9;apply r0)
      refine mkdir_c hg hc (by with_reducible assumption) ?_
      generalize T.plant c (T.resolve c path false) (dirN mode umask) = R0 at hO ⊢
      repeat first|(apply x1;apply r0;apply r0)|apply w4|apply w5|apply wg
      exact ⟨_, hO, (by repeat (first | exact Fr.sub_nil _ | refine Fr.sub_cons rfl ?_)), AHeap.sub_refl _⟩
    repeat first|(apply x1;apply r0;apply r0)|apply w4|apply w6|apply w7|apply w5
    refine aw_cond rfl (fun c2 => ?_) (fun c2 => ?_)<;>first|replace c2:=of_decide_eq_true c2|replace c2:=of_decide_eq_false c2
    · have hO := own_link hg htr c path umask
      repeat first|(apply x1;apply r0;apply r0)|(apply x2;apply r0;(with_reducible assumption);apply r0)|(apply x9;apply r0)|apply w7
      refine symlink_c (target := ⟨#[113]⟩) hg hc (by with_reducible assumption) ?_
      generalize T.symlink c ⟨#[113]⟩ path = R0 at hO ⊢
      repeat first|(apply x1;apply r0;apply r0)|apply w4|apply w5|apply wg
      exact ⟨_, hO, (by repeat (first | exact Fr.sub_nil _ | refine Fr.sub_cons rfl ?_)), AHeap.sub_refl _⟩
    have hO := own_file hg htr c path hu mode
    repeat first|(apply x1;apply r0;apply r0)|(apply x2;apply r0;(with_reducible assumption);apply r0)|apply w7
    refine s_conv (r := umask) tk rfl rfl rfl rfl (wrap_id ⟨by omega, by omega⟩) ?_
    repeat (apply x1;apply r0;apply r0)
    refine s_conv (r := mode) tk rfl rfl rfl rfl (wrap_id ⟨by omega, by omega⟩) ?_
    repeat (apply x9;apply r0)
    refine create_c hg hc (by with_reducible assumption) ?_
    generalize T.plant c (T.resolve c path false) (fun _ => fileN mode umask) = R0 at hO ⊢
    repeat first|(apply x1;apply r0;apply r0)|apply w4|apply w5|apply wg
    exact ⟨_, hO, (by repeat (first | exact Fr.sub_nil _ | refine Fr.sub_cons rfl ?_)), AHeap.sub_refl _⟩
  rintro F' H' ⟨R, hO, hF, hH⟩
  refine AW_sub ?_ hF hH
  clear hF hH
  have hgR := hO.good
  repeat first|(apply x1;apply r0;apply r0)|apply w4|apply w6|apply w7|apply w5
  refine aw_cond rfl (fun g3 => ?_) (fun g3 => ?_)<;>first|replace g3:=not_t g3|replace g3:=not_f g3
  · repeat first|(apply x1;apply r0;apply r0)|(apply x9;apply r0)|apply w6|apply w7
    refine tsame_c hgR.wf hg.wf (by apply q0) (by with_reducible repeat first|assumption|exact q1 ‹_›|apply q3) ?_
    rw [hO.err g3, same_selfW]
    repeat first|(apply x1;apply r0;apply r0)|apply w4|apply wd|apply w5|apply we
    exact rt1 (H' := H) rfl rfl (.refl _) (by repeat first|assumption|(apply su1;assumption)) hK
  have g3' : R.2 = 0 := g3
  have hO' := hO.ok g3'
  have hur := used_rngW hg
  have h24 := hgR.wf.2.1
  repeat first|(apply x1;apply r0;apply r0)|(apply x2;apply r0;(with_reducible repeat first|assumption|apply q3);apply r0)|(apply x9;apply r0)|apply w6|apply w7|apply wa|apply w5
  refine llstat_c hgR hc (by apply q0) ?_
  generalize R.1.look c path false = S at hO' ⊢
  obtain ⟨o1, o2, o3, o4, o5, o6, o7, o8, o9, o10⟩ := hO'
  rw [o1]
  repeat (apply x1;apply r0;apply r0)
  refine s_alloc tk rfl rfl rfl (fun b20 hb20 => ?_); have hb := hb20; (try simp only [put_none_iff, prot_none_iff] at hb); (repeat obtain ⟨_, _, hb⟩ := hb)
  repeat (apply gO;first|(apply x1;apply r0;apply r0)|((first|apply x2|apply xst);apply r0;(with_reducible repeat first|assumption|apply q0|apply ps|exact q1 ‹_›|exact q2 ‹_›|apply q4|apply pg|apply q3|apply gp|apply gq|exact n1 ‹_› ‹_›|exact n2 ‹_› ‹_›|exact n3 ‹_› ‹_›|exact n4 ‹_› ‹_›|apply nm1|exact nm0|exact mm0|apply mm1);apply r0)|((first|apply x3|apply x5|apply x8|apply xbd|apply xbs|apply x9);apply r0)|apply w4|(apply w3;apply r0;apply r0)|((first|apply x6|apply x7);apply r0;omega))
  first | apply w7 | apply w5 | apply wl | apply wg | apply we | apply wf | apply wh | apply wj | apply wm | apply wn | apply wa | apply wd | apply wb | apply wc | apply wk
  apply w6
  generalize hY : AHeap.put _ b20 _ = Y
  have yT : Rd Y t (encTab R.1) := by rw [← hY]; exact (by apply rd_eq;(focus with_reducible repeat first|assumption|apply q0|apply q3);rfl)
  have yU : Rd Y u (encTab T) := by rw [← hY]; exact (by apply rd_eq;(focus with_reducible repeat first|assumption|exact q1 ‹_›|apply q3|exact n2 ‹_› ‹_›);rfl)
  have yr9 : Rd Y b9 (encCred c) := by rw [← hY]; exact (by apply rd_eq;(focus with_reducible repeat first|assumption|apply q3|exact n1 ‹_› ‹_›);rfl)
  have yr20 : Rd Y b20 (encSt S.1) := by rw [← hY]; exact (by apply rd_eq;(focus apply q0);rfl)
  have ys : H.sub Y := by rw [← hY]; exact (by repeat first|assumption|(apply su1;assumption)|(apply su3;assumption;assumption))
  clear hY
  refine aw_cutS (fun F' H' => Fr.sub [(16, .ptr t 0), (18, .ptr u 0), (20, .ptr b20 0)] F' ∧ Y.sub H') ?_ ?_
  · repeat first|(apply x1;apply r0;apply r0)|(apply x2;apply r0;(with_reducible assumption);apply r0)|(apply x5;apply r0)|apply w6|apply w7
    refine s_gsplit rfl rfl (fun v1 => ?_) (fun v1 => ?_)<;>first|replace v1:=not_t v1|replace v1:=not_f v1
    · exact absurd o2 v1
    repeat first|(apply x1;apply r0;apply r0)|(apply x2;apply r0;(with_reducible assumption);apply r0)|(apply x5;apply r0)
    refine s_gsplit rfl rfl (fun v2 => ?_) (fun v2 => ?_)<;>first|replace v2:=not_t v2|replace v2:=not_f v2
    · exact absurd o3 v2
    repeat first|(apply x1;apply r0;apply r0)|(apply x2;apply r0;(with_reducible assumption);apply r0)|(apply x5;apply r0)
    refine s_bits rfl rfl rfl rfl ?_
    repeat first|(apply x1;apply r0;apply r0)|(apply x5;apply r0)
    refine s_gsplit rfl rfl (fun v3 => ?_) (fun v3 => ?_)<;>first|replace v3:=not_t v3|replace v3:=not_f v3
    · exact absurd o4 v3
    repeat first|(apply x1;apply r0;apply r0)|(apply x2;apply r0;(with_reducible assumption);apply r0)|(apply x5;apply r0)
    refine s_gsplit rfl rfl (fun v4 => ?_) (fun v4 => ?_)<;>first|replace v4:=not_t v4|replace v4:=not_f v4
    · have o5' := o5.resolve_left v4
      repeat first|(apply x1;apply r0;apply r0)|(apply x2;apply r0;(with_reducible assumption);apply r0)|(apply x5;apply r0)
      refine s_conv (r := umask) tk rfl rfl rfl rfl (wrap_id ⟨by omega, by omega⟩) ?_
      repeat (apply x5;apply r0)
      refine s_bits rfl rfl rfl rfl ?_
      repeat (apply x5;apply r0)
      refine s_bits rfl rfl rfl rfl ?_
      repeat first|(apply x1;apply r0;apply r0)|(apply x5;apply r0)
      refine s_gsplit rfl rfl (fun v5 => ?_) (fun v5 => ?_)<;>first|replace v5:=not_t v5|replace v5:=not_f v5
      · exact absurd o5' v5
      repeat first|(apply x1;apply r0;apply r0)|(apply x5;apply r0)|(apply x9;apply r0)
      refine used_c hgR.wf (by with_reducible assumption) ?_
      repeat first|(apply x1;apply r0;apply r0)|(apply x5;apply r0)|(apply x9;apply r0)
      refine used_c hg.wf (by with_reducible assumption) ?_
      repeat first|(apply x1;apply r0;apply r0)|(apply x5;apply r0)|(apply x6;apply r0;omega)
      refine s_gsplit rfl rfl (fun v6 => ?_) (fun v6 => ?_)<;>first|replace v6:=not_t v6|replace v6:=not_f v6
      · exact absurd o6 v6
      repeat first|(apply x1;apply r0;apply r0)|(apply x5;apply r0)|(apply x9;apply r0)
      refine tright_c (op := []) hgR.wf (Nat.zero_le _) (by with_reducible assumption) ?_
      rw [o7]
      repeat first|(apply x1;apply r0;apply r0)|(apply x5;apply r0)|apply w4|(apply w9;apply r0)|apply wa|apply w5
      exact ⟨(by repeat (first | exact Fr.sub_nil _ | refine Fr.sub_cons rfl ?_)), AHeap.sub_refl _⟩
    repeat first|(apply x1;apply r0;apply r0)|(apply x5;apply r0)|(apply x9;apply r0)|(apply w3;apply r0;apply r0)
    refine used_c hgR.wf (by with_reducible assumption) ?_
    repeat first|(apply x1;apply r0;apply r0)|(apply x5;apply r0)|(apply x9;apply r0)
    refine used_c hg.wf (by with_reducible assumption) ?_
    repeat first|(apply x1;apply r0;apply r0)|(apply x5;apply r0)|(apply x6;apply r0;omega)
    refine s_gsplit rfl rfl (fun v6 => ?_) (fun v6 => ?_)<;>first|replace v6:=not_t v6|replace v6:=not_f v6
    · exact absurd o6 v6
    repeat first|(apply x1;apply r0;apply r0)|(apply x5;apply r0)|(apply x9;apply r0)
    refine tright_c (op := []) hgR.wf (Nat.zero_le _) (by with_reducible assumption) ?_
    rw [o7]
    repeat first|(apply x1;apply r0;apply r0)|(apply x5;apply r0)|apply w4|(apply w9;apply r0)|apply wa|apply w5
    exact ⟨(by repeat (first | exact Fr.sub_nil _ | refine Fr.sub_cons rfl ?_)), AHeap.sub_refl _⟩
  rintro F' H' ⟨hF, hH⟩
  refine AW_sub ?_ hF hH
  clear hF hH
  repeat first|(apply x1;apply r0;apply r0)|(apply x2;apply r0;(with_reducible assumption);apply r0)|(apply x9;apply r0)|apply w6|apply w7
  refine parent_c hgR.wf (by with_reducible assumption) ?_
  generalize R.1.parent S.1.node = p at o9 o10 ⊢
  repeat first|(apply x1;apply r0;apply r0)|apply w4|apply w6|apply w7|apply wb|apply w5
  refine aw_loop (fun k : Nat => k = 0 ∨ (k : Int) ≤ R.1.room) (fun k => [(16, .ptr t 0), (18, .ptr u 0), (20, .ptr b20 0), (22, .i p), (23, .i ((k : Int) + 1))]) (fun _ => Y) (fun k => R.1.room.toNat - k) 0 (.inl rfl) (by repeat (first | exact Fr.sub_nil _ | refine Fr.sub_cons rfl ?_)) (AHeap.sub_refl _) ?_
  intro k hk
  repeat first|(apply x1;apply r0;apply r0)|(apply x9;apply r0)|apply w6|apply w7
  refine room_c (by with_reducible assumption) ?_
  repeat first|(apply x1;apply r0;apply r0)|apply w4|apply w5
  refine aw_cond rfl (fun c1 => ?_) (fun c1 => ?_)<;>first|replace c1:=of_decide_eq_true c1|replace c1:=of_decide_eq_false c1
  case refine_2 =>
    repeat first|(apply gO;first|(apply x1;apply r0;apply r0)|apply w4)|(apply gW;first|apply w6|apply w7|apply wd|apply wc)|apply w5|apply wf|apply wh
    exact rt1 (H' := H) rfl rfl (.refl _) (by repeat assumption) hK
  have c1' : (k : Int) + 1 ≤ R.1.room := by omega
  have hkk : (((k + 1 : Nat) : Int)) = (k : Int) + 1 := by omega
  have fa := at_few hg ((k : Int) + 1)
  have fb := at_few hgR ((k : Int) + 1)
  have p9 := o9 ((k : Int) + 1)
  have p10 := o10 ((k : Int) + 1)
  repeat first|(apply x1;apply r0;apply r0)|(apply x9;apply r0)|apply w6|apply w7|apply wa|apply wb|apply w5
  refine tget_c hg.wf (by with_reducible assumption) ?_
  repeat (apply x1;apply r0;apply r0)
  refine s_alloc tk rfl rfl rfl (fun b24 hb24 => ?_); have hb := hb24; (try simp only [put_none_iff, prot_none_iff] at hb); (repeat obtain ⟨_, _, hb⟩ := hb)
  repeat first|(apply x1;apply r0;apply r0)|(apply xst;apply r0;(apply ps);apply r0)|(apply x9;apply r0)|apply w4|apply w6|apply w7|apply w5
  refine tget_c hgR.wf (by with_reducible repeat first|assumption|apply q3|exact n1 ‹_› ‹_›) ?_
  repeat (apply x1;apply r0;apply r0)
  refine s_alloc tk rfl rfl rfl (fun b26 hb26 => ?_); have hb := hb26; (try simp only [put_none_iff, prot_none_iff] at hb); (repeat obtain ⟨_, _, hb⟩ := hb)
  repeat first|(apply x1;apply r0;apply r0)|(apply x2;apply r0;(with_reducible repeat first|assumption|apply ps|apply q3|exact n1 ‹_› ‹_›);apply r0)|(apply xst;apply r0;(with_reducible repeat first|assumption|apply ps|apply q3|exact n1 ‹_› ‹_›);apply r0)|apply w4|apply w6|apply w7|apply w5
  refine aw_cond rfl (fun e1 => ?_) (fun e1 => ?_)<;>first|replace e1:=of_decide_eq_true e1|replace e1:=of_decide_eq_false e1
  · rw [show T.has ((k : Int) + 1) = false by rw [e1]; exact o8]
    repeat first|(apply gO;first|(apply x1;apply r0;apply r0)|apply w4|(apply x6;apply r0;omega))|(apply gW;first|apply w6|apply w7|(apply w9;apply r0)|apply wa|apply wc)|apply w5|apply wf|apply wh
    exact ⟨k + 1, by omega, by omega, (by repeat (first | exact Fr.sub_nil _ | refine Fr.sub_cons rfl ?_)), (by repeat first|exact s0|(apply su1;assumption))⟩
  repeat first|(apply x1;apply r0;apply r0)|apply w4|apply w6|apply w7|apply wa|apply w5
  refine aw_cond rfl (fun e2 => ?_) (fun e2 => ?_)<;>first|replace e2:=of_decide_eq_true e2|replace e2:=of_decide_eq_false e2
  · obtain ⟨d1, d2⟩ := p9 e1 e2
    have hfa := fa.1
    have lA := ents_len (T.at ((k : Int) + 1)).ents
    have lB := ents_len (R.1.at ((k : Int) + 1)).ents
    repeat first|(apply x1;apply r0;apply r0)|(apply x2;apply r0;(with_reducible repeat first|assumption|apply q0|apply q3);apply r0)|apply w4|(apply x6;apply r0;omega)|apply w6|apply w7|apply w5
    refine aw_cond rfl (fun e3 => ?_) (fun e3 => ?_)<;>first|replace e3:=not_t e3|replace e3:=not_f e3
    · exact absurd (show ((((R.1.at ((k : Int) + 1)).ents.map encEnt).length : Nat) : Int) = ((((T.at ((k : Int) + 1)).ents.map encEnt).length : Nat) : Int) + 1 by rw [lA, lB, d1]; omega) e3
    repeat first|(apply gO;first|(apply x1;apply r0;apply r0)|(apply x2;apply r0;(with_reducible repeat first|assumption|apply q0|apply ps|apply q3);apply r0)|(apply xst;apply r0;(with_reducible repeat first|assumption|apply q0|apply ps|apply q3);apply r0)|(apply x9;apply r0)|apply w4)|(apply gW;first|apply w6|apply w7|apply wa)|apply w5
    rw [show (encNode (R.1.at ((k : Int) + 1))).set (0 + 5) (.sl ((T.at ((k : Int) + 1)).ents.map encEnt) .no) = encNode { R.1.at ((k : Int) + 1) with ents := (T.at ((k : Int) + 1)).ents } from rfl, d2]
    refine same_c fa.small ?_
    rw [same_refl]
    repeat first|(apply gO;first|(apply x1;apply r0;apply r0)|apply w4|(apply x6;apply r0;omega))|(apply gW;first|apply w7|(apply w9;apply r0)|apply wa)|apply w5|apply wg
    exact ⟨k + 1, by omega, by omega, (by repeat (first | exact Fr.sub_nil _ | refine Fr.sub_cons rfl ?_)), (by repeat first|exact s0|(apply su1;assumption))⟩
  · rw [p10 e1 e2]
    repeat first|(apply x2;apply r0;(with_reducible repeat first|assumption|apply q0|apply q3);apply r0)|(apply x9;apply r0)|apply w6|apply w7|apply wa|apply w5
    refine same_c fa.small ?_
    rw [same_refl]
    repeat first|(apply gO;first|(apply x1;apply r0;apply r0)|apply w4|(apply x6;apply r0;omega))|(apply gW;first|apply w7|(apply w9;apply r0)|apply wa)|apply w5|apply wg
    exact ⟨k + 1, by omega, by omega, (by repeat (first | exact Fr.sub_nil _ | refine Fr.sub_cons rfl ?_)), (by repeat first|exact s0|(apply su1;assumption))⟩
end Abs
end Go.Proofs.Ytpmnfbgnlanpoaa
