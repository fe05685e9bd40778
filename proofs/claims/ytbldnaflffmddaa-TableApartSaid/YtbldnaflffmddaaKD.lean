import Derived.Test.YtbldnaflffmddaaKC
import Derived.Test.YtbldnaflffmddaaL1
import Derived.Test.YtbldnaflffmddaaL5
set_option linter.unusedVariables false
namespace Go.Proofs.Ytbldnaflffmddaa
namespace Abs
set_option maxRecDepth 10000

/-! ### TableApart: plain law -/
theorem sameTo_selfA (T : Tab) : ∀ k : Nat, T.sameTo T k = true
  | 0 => rfl
  | k + 1 => by simp only [Tab.sameTo, sameTo_selfA T k, same_refl, Bool.and_self]
theorem same_selfA (T : Tab) : T.same T = true := sameTo_selfA T 24
/-- bytes, or entries, of the call's own: none, or a row apart from all that is known -/
def DvOk (H V : AHeap) (v : AVal) : Prop := v = .sl [] .no ∨ ∃ b m cap x r, v = .row b 0 (m + 1) cap ∧ H b = none ∧ V b = some (.cells (.sc (.int .u8 x) :: r))
def EvOk (H V : AHeap) (v : AVal) : Prop := v = .sl [] .no ∨ ∃ b m cap s x r, v = .row b 0 (m + 1) cap ∧ H b = none ∧ V b = some (.cells (.s s :: .i x :: r))
theorem dv_of {H V : AHeap} {v : AVal} {d : ByteArray} (h : RowV H V v (encBytes d)) : DvOk H V v := by
  rcases h with ⟨_, h⟩ | ⟨h0, b, cap, r, h1, h2, h3, h4⟩
  · exact .inl h
  · obtain ⟨⟨l⟩⟩ := d
    cases l with
    | nil => exact absurd h0 (Nat.lt_irrefl 0)
    | cons c l => exact .inr ⟨b, l.length, cap, c.toNat, _, by rw [h1]; simp [encBytes], h3, h4⟩
theorem ev_of {H V : AHeap} {v : AVal} {l : List Ent} (h : RowV H V v (l.map encEnt)) : EvOk H V v := by
  rcases h with ⟨_, h⟩ | ⟨h0, b, cap, r, h1, h2, h3, h4⟩
  · exact .inl h
  · cases l with
    | nil => exact absurd h0 (Nat.lt_irrefl 0)
    | cons c l => exact .inr ⟨b, l.length, cap, c.name, c.node, _, by rw [h1]; simp, h3, h4⟩
theorem DvOk.put {H V : AHeap} {v : AVal} (h : DvOk H V v) {b : Nat} (hb : V b = none) (o : HObj) : DvOk H (V.put b o) v := by
  rcases h with h | ⟨b', m, cap, x, r, h1, h2, h3⟩
  · exact .inl h
  · exact .inr ⟨b', m, cap, x, r, h1, h2, by rw [put_ne (get_ne h3 hb)]; exact h3⟩
theorem EvOk.put {H V : AHeap} {v : AVal} (h : EvOk H V v) {b : Nat} (hb : V b = none) (o : HObj) : EvOk H (V.put b o) v := by
  rcases h with h | ⟨b', m, cap, s, x, r, h1, h2, h3⟩
  · exact .inl h
  · exact .inr ⟨b', m, cap, s, x, r, h1, h2, by rw [put_ne (get_ne h3 hb)]; exact h3⟩
end Abs
end Go.Proofs.Ytbldnaflffmddaa

set_option linter.unusedVariables false
namespace Go.Proofs.Ytbldnaflffmddaa
namespace Abs
set_option linter.unusedSimpArgs false
set_option maxRecDepth 10000
set_option maxHeartbeats 2000000
attribute [local irreducible] AOps AW AP ACalls thenQ inBlk noGoto

/-! ### TableApart -/
theorem aops_heap {P : Program} {n : Nat} {ops : Array Oper} {l : List Oper} {F : Fr} {H Z : AHeap} {K : APost} (e : H = Z) (h : AOps P n ops l F Z K) : AOps P n ops l F H K := e ▸ h
theorem tableApart_c {l more : List Ac} {i : Int} (hl : l.length ≤ 9223372036854775807) (hn : ∀ a ∈ l, a.n.len) (hml : more.length ≤ 9223372036854775807) (hmn : ∀ a ∈ more, a.n.len) (hi8 : 0 ≤ i ∧ i ≤ 255) {H : AHeap} {K : AVal → AHeap → Prop} (hK : K (.b true) H) :
    ACalls Try.prog 8 [.sl (l.map encAc) .no, .sl (more.map encAc) .no, .sc (.int .u8 i)] H K := by
  refine acalls_body Try.func8 rfl rfl rfl ?_
  repeat first|(apply x1;apply r0;apply r0)|(apply x9;apply r0)|apply w4|apply w6|apply w7|apply w5
  refine awake_c ?_
  repeat first|(apply gO;first|(apply x1;apply r0;apply r0)|(apply x9;apply r0)|apply w4)|(apply gW;first|apply w6|apply w7|(apply w9;apply r0)|apply wa)|apply w5
  refine small_c hl hn (fun p1 hp1 => ?_)
  cases p1 with
  | false =>
    repeat first|(apply gO;first|(apply x1;apply r0;apply r0)|apply w4|(apply w3;apply r0;apply r0))|(apply gW;first|apply w6|apply w7|(apply w8;apply r0)|apply wd)|apply w5|apply we
    exact rt1 (H' := H) rfl rfl (.refl _) s0 hK
  | true =>
  repeat first|(apply x1;apply r0;apply r0)|(apply x5;apply r0)|(apply x9;apply r0)
  refine small_c hml hmn (fun p2 hp2 => ?_)
  cases p2 with
  | false =>
    repeat first|(apply gO;first|(apply x1;apply r0;apply r0)|apply w4)|(apply gW;first|apply w6|apply w7|(apply w8;apply r0)|apply wd)|apply w5|apply we
    exact rt1 (H' := H) rfl rfl (.refl _) s0 hK
  | true =>
  obtain ⟨hl40, hfew⟩ := hp1 rfl
  obtain ⟨hm40, hmfew⟩ := hp2 rfl
  repeat first|(apply gO;first|(apply x1;apply r0;apply r0)|(apply x9;apply r0)|apply w4)|(apply gW;first|apply w6|apply w7|(apply w9;apply r0)|apply wa)|apply w5
  refine new_c (room := 12) (fun bt hbt => ?_)
  repeat first|(apply x1;apply r0;apply r0)|(apply x9;apply r0)|apply w4|apply w6|apply w7|apply w5
  refine play_c (new_wf 12) (put_same _ _ _) hl40 hfew (fun T hw hroom => ?_)
  rw [put_put]
  have hroom12 : T.room = 12 := hroom.trans (by decide)
  have hT1 : (H.put bt (.cells (encTab T))) bt = some (.cells (encTab T)) := put_same _ _ _
  have hs1 : H.sub (H.put bt (.cells (encTab T))) := sub_new hbt (AHeap.sub_refl _)
  generalize H.put bt _ = H1 at hT1 hs1 ⊢
  repeat first|(apply x1;apply r0;apply r0)|(apply x9;apply r0)|apply w4|apply w6|apply w7|apply w5
  refine clone_c hw (.inl hT1) (fun bc hbc => ?_)
  have ntc : bt ≠ bc := get_ne hT1 hbc
  have fbc : H bc = none := sub_none hs1 hbc
  repeat first|(apply x1;apply r0;apply r0)|(apply x9;apply r0)|apply w4|apply w6|apply w7|apply w5
  refine clone_c hw (.inl (by rw [put_ne ntc]; exact hT1)) (fun bd hbd => ?_)
  have ntd : bt ≠ bd := get_ne (by rw [put_ne ntc]; exact hT1) hbd
  have ncd : bc ≠ bd := get_ne (put_same _ _ _) hbd
  have fbd : H bd = none := sub_none (AHeap.sub_put hs1 _ fbc) hbd
  have hT3 : ((H1.put bc (.cells (encTab T))).put bd (.cells (encTab T))) bt = some (.cells (encTab T)) := by rw [put_ne ntd, put_ne ntc]; exact hT1
  have hC3 : ((H1.put bc (.cells (encTab T))).put bd (.cells (encTab T))) bc = some (.cells (encTab T)) := by rw [put_ne ncd, put_same]
  have hD3 : ((H1.put bc (.cells (encTab T))).put bd (.cells (encTab T))) bd = some (.cells (encTab T)) := put_same _ _ _
  have hs3 : H.sub ((H1.put bc (.cells (encTab T))).put bd (.cells (encTab T))) := AHeap.sub_put (AHeap.sub_put hs1 _ fbc) _ fbd
  generalize (H1.put bc _).put bd _ = H3 at hT3 hC3 hD3 hs3 ⊢
  repeat first|(apply x1;apply r0;apply r0)|(apply x9;apply r0)|apply w4|apply w6|apply w7|apply w5
  refine tsame_c hw hw (.inl hC3) (.inl hT3) ?_
  rw [same_selfA]
  repeat first|(apply x1;apply r0;apply r0)|(apply x5;apply r0)|(apply x9;apply r0)
  refine room_c (T := T) (.inl hC3) ?_
  rw [hroom12]
  repeat first|(apply gO;first|(apply x1;apply r0;apply r0)|(apply x5;apply r0)|(apply x9;apply r0)|apply w4)|(apply gW;first|apply w6|apply w7|(apply w9;apply r0)|apply wa)|apply w5
  refine play_c hw hC3 hm40 hmfew (fun Tc hwc _ => ?_)
  have hT4 : (H3.put bc (.cells (encTab Tc))) bt = some (.cells (encTab T)) := by rw [put_ne ntc]; exact hT3
  have hD4 : (H3.put bc (.cells (encTab Tc))) bd = some (.cells (encTab T)) := by rw [put_ne (Ne.symm ncd)]; exact hD3
  have hs4 : H.sub (H3.put bc (.cells (encTab Tc))) := AHeap.sub_put hs3 _ fbc
  generalize H3.put bc _ = H4 at hT4 hD4 hs4 ⊢
  repeat first|(apply x1;apply r0;apply r0)|(apply x9;apply r0)|apply w4|apply w6|apply w7|apply w5
  refine tsame_c hw hw (.inl hD4) (.inl hT4) ?_
  rw [same_selfA]
  repeat first|(apply x1;apply r0;apply r0)|apply w4|apply w6|apply w7|(apply w9;apply r0)|apply wa|apply w5
  refine s_conv (r := i) tk rfl rfl rfl rfl (wrap_id ⟨by omega, by omega⟩) ?_
  skip
  refine s_rem rfl rfl rfl (by decide) hi8.1 ?_
  have hi12 := Int.emod_nonneg i (show (12 : Int) ≠ 0 by decide)
  have hi13 := Int.emod_lt_of_pos i (show (0 : Int) < 12 by decide)
  generalize i % 12 = k12 at hi12 hi13 ⊢
  repeat (apply gO;first|(apply x1;apply r0;apply r0)|((first|apply x2|apply xst);apply r0;(with_reducible repeat first|assumption|apply q0|apply ps|exact q1 ‹_›|exact q2 ‹_›|apply q4|apply pg|apply q3|apply gp|apply gq|exact n1 ‹_› ‹_›|exact n2 ‹_› ‹_›|exact n3 ‹_› ‹_›|exact n4 ‹_› ‹_›|apply nm1|exact nm0|exact mm0|apply mm1);apply r0)|((first|apply x3|apply x5|apply x8|apply xbd|apply xbs|apply x9);apply r0)|apply w4|(apply w3;apply r0;apply r0)|((first|apply x6|apply x7);apply r0;omega))
  apply w5; apply w6
  refine aw_cutS (fun F' H' => ∃ b13 dv ev is a1 a2 a3 a4 tg V, V bt = some (.cells (encTab T)) ∧ V bd = some (.cells (encTab T)) ∧ H.sub V ∧ V b13 = some (.cells [.i a1, .i a2, .i a3, .i a4, dv, ev, .s tg]) ∧ DvOk H4 V dv ∧ EvOk H4 V ev ∧ (∀ b m c b' m' c', dv = .row b 0 m c → ev = .row b' 0 m' c' → b ≠ b') ∧ Fr.sub [(9, .ptr bt 0), (11, .ptr bd 0), (13, .ptr b13 0), (14, .b is)] F' ∧ V.sub H') ?_ ?_
  · repeat first|(apply x1;apply r0;apply r0)|(apply x9;apply r0)|apply w7
    refine get_row hw (.inl hT4) (fun hh => ?_) (fun hh dv ev Y hY hdv hev hne => ?_)
    · repeat (apply x1;apply r0;apply r0)
      refine s_alloc tk rfl rfl rfl (fun b13 hb13 => ?_); have hb := hb13; (try simp only [put_none_iff, prot_none_iff] at hb); (repeat obtain ⟨_, _, hb⟩ := hb)
      (apply xst;apply r0;(apply ps);apply r0)
      rw [put_put]
      repeat first|(apply x1;apply r0;apply r0)|apply w4|apply w5
      refine ⟨b13, .sl [] .no, .sl [] .no, false, 0, 0, 0, 0, ⟨#[]⟩, H4.put b13 (.cells (encNode Node.zero)), (by with_reducible repeat first|assumption|apply gp|exact n2 ‹_› ‹_›), (by with_reducible repeat first|assumption|apply gp|exact n2 ‹_› ‹_›), (by repeat first|assumption|(apply su3;assumption;assumption)), put_same _ _ _, .inl rfl, .inl rfl, (fun b m c b' m' c' h => by cases h), (by repeat (first | exact Fr.sub_nil _ | refine Fr.sub_cons rfl ?_)), AHeap.sub_refl _⟩
    · have hYt := (hY bt (by rw [hT4]; simp)).trans hT4
      have hYd := (hY bd (by rw [hD4]; simp)).trans hD4
      have hsY : H.sub Y := AHeap.sub_trans hs4 (sub_same hY)
      have kdv := dv_of hdv
      have kev := ev_of hev
      rcases hdv with ⟨_, rfl⟩ | ⟨_, be1, cape1, re1, rfl, _, _, _⟩
      · rcases hev with ⟨_, rfl⟩ | ⟨_, be2, cape2, re2, rfl, _, _, _⟩
        · repeat (apply x1;apply r0;apply r0)
          refine s_alloc tk rfl rfl rfl (fun b13 hb13 => ?_); have hb := hb13; (try simp only [put_none_iff, prot_none_iff] at hb); (repeat obtain ⟨_, _, hb⟩ := hb)
          (apply xst;apply r0;(apply ps);apply r0)
          rw [put_put]
          repeat first|(apply x1;apply r0;apply r0)|apply w4|apply w5
          exact ⟨b13, _, _, true, _, _, _, _, _, _, (by with_reducible repeat first|assumption|apply gp|exact n2 ‹_› ‹_›), (by with_reducible repeat first|assumption|apply gp|exact n2 ‹_› ‹_›), (by repeat first|assumption|(apply su3;assumption;assumption)), put_same _ _ _, kdv.put hb13 _, kev.put hb13 _, (fun b m c b' m' c' h h' => hne b b' m c m' c' h h'), (by repeat (first | exact Fr.sub_nil _ | refine Fr.sub_cons rfl ?_)), AHeap.sub_refl _⟩
        · repeat (apply x1;apply r0;apply r0)
          refine s_alloc tk rfl rfl rfl (fun b13 hb13 => ?_); have hb := hb13; (try simp only [put_none_iff, prot_none_iff] at hb); (repeat obtain ⟨_, _, hb⟩ := hb)
          (apply xst;apply r0;(apply ps);apply r0)
          rw [put_put]
          repeat first|(apply x1;apply r0;apply r0)|apply w4|apply w5
          exact ⟨b13, _, _, true, _, _, _, _, _, _, (by with_reducible repeat first|assumption|apply gp|exact n2 ‹_› ‹_›), (by with_reducible repeat first|assumption|apply gp|exact n2 ‹_› ‹_›), (by repeat first|assumption|(apply su3;assumption;assumption)), put_same _ _ _, kdv.put hb13 _, kev.put hb13 _, (fun b m c b' m' c' h h' => hne b b' m c m' c' h h'), (by repeat (first | exact Fr.sub_nil _ | refine Fr.sub_cons rfl ?_)), AHeap.sub_refl _⟩
      · rcases hev with ⟨_, rfl⟩ | ⟨_, be2, cape2, re2, rfl, _, _, _⟩
        · repeat (apply x1;apply r0;apply r0)
          refine s_alloc tk rfl rfl rfl (fun b13 hb13 => ?_); have hb := hb13; (try simp only [put_none_iff, prot_none_iff] at hb); (repeat obtain ⟨_, _, hb⟩ := hb)
          (apply xst;apply r0;(apply ps);apply r0)
          rw [put_put]
          repeat first|(apply x1;apply r0;apply r0)|apply w4|apply w5
          exact ⟨b13, _, _, true, _, _, _, _, _, _, (by with_reducible repeat first|assumption|apply gp|exact n2 ‹_› ‹_›), (by with_reducible repeat first|assumption|apply gp|exact n2 ‹_› ‹_›), (by repeat first|assumption|(apply su3;assumption;assumption)), put_same _ _ _, kdv.put hb13 _, kev.put hb13 _, (fun b m c b' m' c' h h' => hne b b' m c m' c' h h'), (by repeat (first | exact Fr.sub_nil _ | refine Fr.sub_cons rfl ?_)), AHeap.sub_refl _⟩
        · repeat (apply x1;apply r0;apply r0)
          refine s_alloc tk rfl rfl rfl (fun b13 hb13 => ?_); have hb := hb13; (try simp only [put_none_iff, prot_none_iff] at hb); (repeat obtain ⟨_, _, hb⟩ := hb)
          (apply xst;apply r0;(apply ps);apply r0)
          rw [put_put]
          repeat first|(apply x1;apply r0;apply r0)|apply w4|apply w5
          exact ⟨b13, _, _, true, _, _, _, _, _, _, (by with_reducible repeat first|assumption|apply gp|exact n2 ‹_› ‹_›), (by with_reducible repeat first|assumption|apply gp|exact n2 ‹_› ‹_›), (by repeat first|assumption|(apply su3;assumption;assumption)), put_same _ _ _, kdv.put hb13 _, kev.put hb13 _, (fun b m c b' m' c' h h' => hne b b' m c m' c' h h'), (by repeat (first | exact Fr.sub_nil _ | refine Fr.sub_cons rfl ?_)), AHeap.sub_refl _⟩
  rintro F' H' ⟨b13, dv, ev, is, a1, a2, a3, a4, tg, V, hVt, hVd, hsV, hV13, kdv, kev, hne, hF, hH⟩
  refine AW_sub ?_ hF hH
  clear hF hH
  apply w6
  refine aw_cutS (fun F' H' => ∃ dv2 V2, V2 bt = some (.cells (encTab T)) ∧ V2 bd = some (.cells (encTab T)) ∧ H.sub V2 ∧ V2 b13 = some (.cells [.i a1, .i a2, .i a3, .i a4, dv2, ev, .s tg]) ∧ EvOk H4 V2 ev ∧ Fr.sub [(9, .ptr bt 0), (11, .ptr bd 0), (13, .ptr b13 0), (14, .b is)] F' ∧ V2.sub H') ?_ ?_
  · cases is with
    | false =>
      repeat first|(apply gO;first|(apply x1;apply r0;apply r0)|apply w4|(apply w3;apply r0;apply r0))|(apply gW;first|apply w6|apply w7|(apply w9;apply r0)|apply wa)|apply w5
      exact ⟨dv, V, hVt, hVd, hsV, hV13, kev, (by repeat (first | exact Fr.sub_nil _ | refine Fr.sub_cons rfl ?_)), AHeap.sub_refl _⟩
    | true =>
      rcases kdv with rfl | ⟨b, m, cap, x, r, rfl, fb, hb⟩
      · repeat first|(apply gO;first|(apply x1;apply r0;apply r0)|(apply x2;apply r0;(with_reducible repeat exact q1 ‹_›);apply r0)|(apply x5;apply r0)|apply w4)|(apply gW;first|apply w6|apply w7|(apply w9;apply r0)|apply wa)|apply w5
        exact ⟨.sl [] .no, V, hVt, hVd, hsV, hV13, kev, (by repeat (first | exact Fr.sub_nil _ | refine Fr.sub_cons rfl ?_)), AHeap.sub_refl _⟩
      · have nb13 : b13 ≠ b := fun e => by rw [e, hb] at hV13; cases hV13
        have nbt : bt ≠ b := fun e => by rw [e, fb] at hT4; cases hT4
        have nbd : bd ≠ b := fun e => by rw [e, fb] at hD4; cases hD4
        have fHb := sub_none hs4 fb
        repeat first|(apply x1;apply r0;apply r0)|(apply x2;apply r0;(with_reducible repeat exact q1 ‹_›);apply r0)|(apply x5;apply r0)|apply w4|apply w6|apply w7|apply w5
        refine aw_cond rfl (fun e1 => ?_) (fun e1 => ?_)<;>first|replace e1:=of_decide_eq_true e1|replace e1:=of_decide_eq_false e1
        case refine_2 => omega
        repeat first|(apply x1;apply r0;apply r0)|(apply x2;apply r0;(with_reducible repeat exact q1 ‹_›);apply r0)|apply w7
        refine s_indexr tk rfl rfl rfl rfl (by decide) (by omega) ?_
        repeat (apply x2;apply r0;(with_reducible repeat exact q1 ‹_›);apply r0)
        refine s_arith (k := .u8) (r := IntKind.u8.wrap (x + 1)) rfl rfl rfl rfl ?_
        refine s_indexr tk rfl rfl rfl rfl (by decide) (by omega) ?_
        repeat first|(apply xst;apply r0;(with_reducible assumption);apply r0)|apply w4|apply w5
        exact ⟨.row b 0 (m + 1) cap, V.put b _, by rw [put_ne nbt]; exact hVt, by rw [put_ne nbd]; exact hVd, AHeap.sub_put hsV _ fHb, by rw [put_ne nb13]; exact hV13, (kev.elim (fun h => .inl h) (fun ⟨b', m', cap', s', x', r', h1, h2, h3⟩ => .inr ⟨b', m', cap', s', x', r', h1, h2, by rw [put_ne (Ne.symm (hne _ _ _ _ _ _ rfl h1))]; exact h3⟩)), (by repeat (first | exact Fr.sub_nil _ | refine Fr.sub_cons rfl ?_)), AHeap.sub_refl _⟩
  rintro F' H' ⟨dv2, V2, hVt2, hVd2, hsV2, hV132, kev2, hF, hH⟩
  refine AW_sub ?_ hF hH
  clear hF hH hne kdv kev hV13 hsV hVd hVt
  apply w6
  refine aw_cutS (fun F' H' => ∃ V3, V3 bt = some (.cells (encTab T)) ∧ V3 bd = some (.cells (encTab T)) ∧ H.sub V3 ∧ Fr.sub [(9, .ptr bt 0), (11, .ptr bd 0)] F' ∧ V3.sub H') ?_ ?_
  · cases is with
    | false =>
      repeat first|(apply gO;first|(apply x1;apply r0;apply r0)|apply w4|(apply w3;apply r0;apply r0))|(apply gW;first|apply w6|apply w7|(apply w9;apply r0)|apply wa)|apply w5
      exact ⟨V2, hVt2, hVd2, hsV2, (by repeat (first | exact Fr.sub_nil _ | refine Fr.sub_cons rfl ?_)), AHeap.sub_refl _⟩
    | true =>
      rcases kev2 with rfl | ⟨b, m, cap, s, x, r, rfl, fb, hb⟩
      · repeat first|(apply gO;first|(apply x1;apply r0;apply r0)|(apply x2;apply r0;(with_reducible repeat exact q1 ‹_›);apply r0)|(apply x5;apply r0)|apply w4)|(apply gW;first|apply w6|apply w7|(apply w9;apply r0)|apply wa)|apply w5
        exact ⟨V2, hVt2, hVd2, hsV2, (by repeat (first | exact Fr.sub_nil _ | refine Fr.sub_cons rfl ?_)), AHeap.sub_refl _⟩
      · have nb13 : b13 ≠ b := fun e => by rw [e, hb] at hV132; cases hV132
        have nbt : bt ≠ b := fun e => by rw [e, fb] at hT4; cases hT4
        have nbd : bd ≠ b := fun e => by rw [e, fb] at hD4; cases hD4
        have fHb := sub_none hs4 fb
        repeat first|(apply x1;apply r0;apply r0)|(apply x2;apply r0;(with_reducible repeat exact q1 ‹_›);apply r0)|(apply x5;apply r0)|apply w4|apply w6|apply w7|apply w5
        refine aw_cond rfl (fun e1 => ?_) (fun e1 => ?_)<;>first|replace e1:=of_decide_eq_true e1|replace e1:=of_decide_eq_false e1
        case refine_2 => omega
        repeat first|(apply x1;apply r0;apply r0)|(apply x2;apply r0;(with_reducible repeat exact q1 ‹_›);apply r0)|apply w7
        refine s_indexr tk rfl rfl rfl rfl (by decide) (by omega) ?_
        repeat first|(apply x1;apply r0;apply r0)|(apply x2;apply r0;(with_reducible repeat exact q1 ‹_›);apply r0)
        refine s_arith (k := .i64) (r := IntKind.i64.wrap (x + 5)) rfl rfl rfl rfl ?_
        refine s_indexr tk rfl rfl rfl rfl (by decide) (by omega) ?_
        repeat first|(apply x1;apply r0;apply r0)|(apply xst;apply r0;(with_reducible assumption);apply r0)|apply w4|apply w5
        exact ⟨V2.put b _, by rw [put_ne nbt]; exact hVt2, by rw [put_ne nbd]; exact hVd2, AHeap.sub_put hsV2 _ fHb, (by repeat (first | exact Fr.sub_nil _ | refine Fr.sub_cons rfl ?_)), AHeap.sub_refl _⟩
  rintro F' H' ⟨V3, hVt3, hVd3, hsV3, hF, hH⟩
  refine AW_sub ?_ hF hH
  clear hF hH hroom hroom12 hi12 hi13 hV132 kev2 hVt2 hVd2 hsV2
  apply w6
  repeat first|(apply x1;apply r0;apply r0)|(apply x9;apply r0)|apply w6|apply w7
  refine tsame_c hw hw (.inl hVd3) (.inl hVt3) ?_
  rw [same_selfA]
  repeat (apply gO;first|(apply x1;apply r0;apply r0)|((first|apply x2|apply xst);apply r0;(with_reducible repeat first|assumption|apply q0|apply ps|exact q1 ‹_›|exact q2 ‹_›|apply q4|apply pg|apply q3|apply gp|apply gq|exact n1 ‹_› ‹_›|exact n2 ‹_› ‹_›|exact n3 ‹_› ‹_›|exact n4 ‹_› ‹_›|apply nm1|exact nm0|exact mm0|apply mm1);apply r0)|((first|apply x3|apply x5|apply x8|apply xbd|apply xbs|apply x9);apply r0)|apply w4|(apply w3;apply r0;apply r0)|((first|apply x6|apply x7);apply r0;omega))
  apply w5
  apply w9; apply r0
  repeat first|apply wa|apply wd|apply wb|apply wc
  apply w5; apply w6; apply w7
  refine s_bslicer (rows := [[.sc (.int .u8 1)], [.sc (.int .u8 2)]]) tk rfl rfl rfl rfl rfl rfl (fun x hx => by simp only [List.mem_cons, List.not_mem_nil, or_false] at hx; rcases hx with rfl | rfl <;> rfl) (by decide) (fun bm hbm => ?_)
  refine xbd (v := .agg (rowM bm 2 .full)) rfl ?_
  unfold rowM
  skip
  refine s_alloc tk rfl rfl rfl (fun b15 hb15 => ?_); have hb := hb15; (try simp only [put_none_iff, prot_none_iff] at hb); (repeat obtain ⟨_, _, hb⟩ := hb)
  (apply xst;apply r0;(apply ps);apply r0)
  rw [put_put]
  have nt3 : bt ≠ bm := get_ne hVt3 hbm
  have nd3 : bd ≠ bm := get_ne hVd3 hbm
  have fbm : H bm = none := sub_none hsV3 hbm
  have nm15 : bm ≠ b15 := get_ne (put_same _ _ _) hb15
  have nt15 : bt ≠ b15 := get_ne (by rw [put_ne nt3]; exact hVt3) hb15
  have nd15 : bd ≠ b15 := get_ne (by rw [put_ne nd3]; exact hVd3) hb15
  have f15 : H b15 = none := sub_none (AHeap.sub_put hsV3 _ fbm) hb15
  have hZt : ((V3.put bm (.cells [.sc (.int .u8 1), .sc (.int .u8 2)])).put b15 (.cells (rowM bm 2 .full))) bt = some (.cells (encTab T)) := by rw [put_ne nt15, put_ne nt3]; exact hVt3
  have hZd : ((V3.put bm (.cells [.sc (.int .u8 1), .sc (.int .u8 2)])).put b15 (.cells (rowM bm 2 .full))) bd = some (.cells (encTab T)) := by rw [put_ne nd15, put_ne nd3]; exact hVd3
  have hZm : ((V3.put bm (.cells [.sc (.int .u8 1), .sc (.int .u8 2)])).put b15 (.cells (rowM bm 2 .full))) bm = some (.cells [.sc (.int .u8 1), .sc (.int .u8 2)]) := by rw [put_ne nm15, put_same]
  have hZ15 : ((V3.put bm (.cells [.sc (.int .u8 1), .sc (.int .u8 2)])).put b15 (.cells (rowM bm 2 .full))) b15 = some (.cells (rowM bm 2 .full)) := put_same _ _ _
  have hsZ : H.sub ((V3.put bm (.cells [.sc (.int .u8 1), .sc (.int .u8 2)])).put b15 (.cells (rowM bm 2 .full))) := AHeap.sub_put (AHeap.sub_put hsV3 _ fbm) _ f15
  refine aops_heap (Z := (V3.put bm (.cells [.sc (.int .u8 1), .sc (.int .u8 2)])).put b15 (.cells (rowM bm 2 .full))) rfl ?_
  generalize (V3.put bm _).put b15 _ = Z at hZt hZd hZm hZ15 hsZ ⊢
  repeat first|(apply x1;apply r0;apply r0)|(apply x2;apply r0;(with_reducible repeat exact q1 ‹_›);apply r0)|(apply x9;apply r0)|apply w4|apply w6|apply w7|apply w5
  have n15d := Ne.symm nd15
  have nmd := Ne.symm nd3
  have n15m := Ne.symm nm15
  refine add_rM (b0 := bm) (cap0 := 2) (o := .full) hw hZd hZm (fun k hk1 hk2 hk3 => ?_) (fun hall => ?_)
  · have hkl : k < 24 := by have := hw.2.1; omega
    have hZd' : (Z.put bd (.cells (encTab (T.put k nM)))) bd = some (.cells (encTab (T.put k nM))) := put_same _ _ _
    have hZt' : (Z.put bd (.cells (encTab (T.put k nM)))) bt = some (.cells (encTab T)) := by rw [put_ne ntd]; exact hZt
    have hZm' : (Z.put bd (.cells (encTab (T.put k nM)))) bm = some (.cells [.sc (.int .u8 1), .sc (.int .u8 2)]) := by rw [put_ne nmd]; exact hZm
    have hZ15' : (Z.put bd (.cells (encTab (T.put k nM)))) b15 = some (.cells (rowM bm 2 .full)) := by rw [put_ne n15d]; exact hZ15
    have hsZ' : H.sub (Z.put bd (.cells (encTab (T.put k nM)))) := AHeap.sub_put hsZ _ fbd
    generalize Z.put bd _ = Y at hZd' hZt' hZm' hZ15' hsZ' ⊢
    repeat first|(apply x1;apply r0;apply r0)|(apply x2;apply r0;(with_reducible repeat exact q1 ‹_›);apply r0)|apply w4|apply w6|apply w7|apply w5
    refine s_indexr tk rfl rfl rfl rfl (by decide) (by decide) ?_
    repeat first|(apply x1;apply r0;apply r0)|(apply xst;apply r0;(with_reducible assumption);apply r0)|(apply x9;apply r0)|apply w4|apply w6|apply w7|apply w5
    have hYm : (Y.put bm (.cells ([.sc (.int .u8 1), .sc (.int .u8 2)].set (0 + Int.toNat 0 * 1) (.sc (.int .u8 9))))) bd = some (.cells (encTab (T.put k nM))) := by rw [put_ne nd3]; exact hZd'
    have hYt : (Y.put bm (.cells ([.sc (.int .u8 1), .sc (.int .u8 2)].set (0 + Int.toNat 0 * 1) (.sc (.int .u8 9))))) bt = some (.cells (encTab T)) := by rw [put_ne nt3]; exact hZt'
    have hsY : H.sub (Y.put bm (.cells ([.sc (.int .u8 1), .sc (.int .u8 2)].set (0 + Int.toNat 0 * 1) (.sc (.int .u8 9))))) := AHeap.sub_put hsZ' _ fbm
    generalize Y.put bm _ = X at hYm hYt hsY ⊢
    refine get_c (put_wf hw nM_small k) (.inl hYm) ?_
    rw [show (if (T.put k nM).has (k + 1) then (T.put k nM).get (k + 1) else Node.zero) = nM from (nd_put hw.1 hk1 hkl (.inr nM_ok) k).trans (if_pos rfl)]
    generalize (T.put k nM).has (k + 1) = bb
    repeat (apply x1;apply r0;apply r0)
    refine s_alloc tk rfl rfl rfl (fun b18 hb18 => ?_); have hb := hb18; (try simp only [put_none_iff, prot_none_iff] at hb); (repeat obtain ⟨_, _, hb⟩ := hb)
    (apply xst;apply r0;(apply ps);apply r0)
    rw [put_put]
    have nt18 : bt ≠ b18 := get_ne hYt hb18
    have nd18 : bd ≠ b18 := get_ne hYm hb18
    repeat first|(apply x1;apply r0;apply r0)|(apply x2;apply r0;(apply q0);apply r0)|(apply x5;apply r0)|apply w4|apply w6|apply w7|apply w5
    refine s_index (c := [.sc (.int .u8 1)]) tk rfl rfl rfl rfl (by decide) rfl rfl ?_
    repeat first|(apply x1;apply r0;apply r0)|(apply x3;apply r0)|(apply x5;apply r0)|(apply x9;apply r0)|(apply w3;apply r0;apply r0)
    refine clone_c hw (.inl (by rw [put_ne nt18]; exact hYt)) (fun bz hbz => ?_)
    have ntz : bt ≠ bz := get_ne (by rw [put_ne nt18]; exact hYt) hbz
    repeat first|(apply x1;apply r0;apply r0)|(apply x5;apply r0)|(apply x9;apply r0)
    refine tsame_c hw hw (.inl (put_same _ _ _)) (.inl (by rw [put_ne ntz, put_ne nt18]; exact hYt)) ?_
    rw [same_selfA]
    repeat first|(apply x1;apply r0;apply r0)|apply w4|apply wd|apply w5
    have f18 : H b18 = none := sub_none hsY hb18
    have fz : H bz = none := sub_none (AHeap.sub_put hsY _ f18) hbz
    exact rt1 (H' := H) rfl rfl (.refl _) (AHeap.sub_put (AHeap.sub_put hsY _ f18) _ fz) hK
  · repeat first|(apply x1;apply r0;apply r0)|(apply x2;apply r0;(with_reducible repeat exact q1 ‹_›);apply r0)|apply w4|apply w6|apply w7|apply w5
    refine s_indexr tk rfl rfl rfl rfl (by decide) (by decide) ?_
    repeat first|(apply x1;apply r0;apply r0)|(apply xst;apply r0;(with_reducible assumption);apply r0)|(apply x9;apply r0)|apply w4|apply w6|apply w7|apply w5
    have hYm : (Z.put bm (.cells ([.sc (.int .u8 1), .sc (.int .u8 2)].set (0 + Int.toNat 0 * 1) (.sc (.int .u8 9))))) bd = some (.cells (encTab T)) := by rw [put_ne nd3]; exact hZd
    have hYt : (Z.put bm (.cells ([.sc (.int .u8 1), .sc (.int .u8 2)].set (0 + Int.toNat 0 * 1) (.sc (.int .u8 9))))) bt = some (.cells (encTab T)) := by rw [put_ne nt3]; exact hZt
    have hsY : H.sub (Z.put bm (.cells ([.sc (.int .u8 1), .sc (.int .u8 2)].set (0 + Int.toNat 0 * 1) (.sc (.int .u8 9))))) := AHeap.sub_put hsZ _ fbm
    generalize Z.put bm _ = X at hYm hYt hsY ⊢
    refine get_c hw (.inl hYm) ?_
    generalize (if T.has 0 then T.get 0 else Node.zero) = n0
    generalize T.has 0 = bb
    repeat (apply x1;apply r0;apply r0)
    refine s_alloc tk rfl rfl rfl (fun b18 hb18 => ?_); have hb := hb18; (try simp only [put_none_iff, prot_none_iff] at hb); (repeat obtain ⟨_, _, hb⟩ := hb)
    (apply xst;apply r0;(apply ps);apply r0)
    rw [put_put]
    have nt18 : bt ≠ b18 := get_ne hYt hb18
    have nd18 : bd ≠ b18 := get_ne hYm hb18
    repeat first|(apply gO;first|(apply x1;apply r0;apply r0)|(apply x5;apply r0)|(apply x9;apply r0)|apply w4|(apply w3;apply r0;apply r0))|(apply gW;first|apply w6|apply w7)|apply w5
    refine tsame_c hw hw (.inl (by rw [put_ne nd18]; exact hYm)) (.inl (by rw [put_ne nt18]; exact hYt)) ?_
    rw [same_selfA]
    repeat first|(apply x1;apply r0;apply r0)|(apply x5;apply r0)|(apply x9;apply r0)
    refine clone_c hw (.inl (by rw [put_ne nt18]; exact hYt)) (fun bz hbz => ?_)
    have ntz : bt ≠ bz := get_ne (by rw [put_ne nt18]; exact hYt) hbz
    repeat first|(apply x1;apply r0;apply r0)|(apply x5;apply r0)|(apply x9;apply r0)
    refine tsame_c hw hw (.inl (put_same _ _ _)) (.inl (by rw [put_ne ntz, put_ne nt18]; exact hYt)) ?_
    rw [same_selfA]
    repeat first|(apply x1;apply r0;apply r0)|apply w4|apply wd|apply w5
    have f18 : H b18 = none := sub_none hsY hb18
    have fz : H bz = none := sub_none (AHeap.sub_put hsY _ f18) hbz
    exact rt1 (H' := H) rfl rfl (.refl _) (AHeap.sub_put (AHeap.sub_put hsY _ f18) _ fz) hK
end Abs
end Go.Proofs.Ytbldnaflffmddaa
