import Derived.Test.YtmokoofibnoojaaM10
import Derived.Test.YtmokoofibnoojaaA10
set_option linter.unusedVariables false
namespace Go.Proofs.Ytmokoofibnoojaa
namespace Abs
set_option linter.unusedSimpArgs false
set_option maxRecDepth 10000
set_option maxHeartbeats 2000000
attribute [local irreducible] AOps AW AP ACalls thenQ inBlk noGoto

/-! ### NodeOrder: the walk -/
def dir0 : Node := ⟨2, 0, 0, 0, ⟨#[]⟩, [], ⟨#[]⟩⟩
theorem dir0_ord {S : ByteArray → Prop} (h : ∀ x, ¬ S x) : OrdSt S dir0 := ⟨rfl, by
  have h2 : idOk 0 = true := by decide
  unfold nodeOk
  simp [dir0, h2, rising, risingFrom]
  rfl, fun x => ⟨fun hx => by simp [entNames, dir0] at hx, fun hx => absurd hx (h x)⟩⟩
structure TwoSt (H Y : AHeap) (b6 b7 : Nat) (a b : Node) : Prop where
  c6 : Y b6 = some (.cells (encNode a))
  c7 : Y b7 = some (.cells (encNode b))
  sub : H.sub Y
theorem TwoSt.new {H Y : AHeap} {b6 b7 c : Nat} {a b : Node} (h : TwoSt H Y b6 b7 a b) (hc : Y c = none) (o : HObj) : TwoSt H (Y.put c o) b6 b7 a b :=
  ⟨get_put (get_ne h.c6 hc) h.c6, get_put (get_ne h.c7 hc) h.c7, fun x p hx => by
    obtain ⟨q, h1, h2⟩ := h.sub x p hx
    exact ⟨q, get_put (get_ne h1 hc) h1, h2⟩⟩
theorem sub_put {H Y : AHeap} {b : Nat} (h : H.sub Y) (hb : H b = none) (o : HObj) : H.sub (Y.put b o) := fun x p hx => by
  obtain ⟨q, h1, h2⟩ := h x p hx
  exact ⟨q, by rw [put_ne (fun e : x = b => by rw [e, hb] at hx; cases hx)]; exact h1, h2⟩
theorem order_less {l : List Ent} (hr : rising l = true) {k : Nat} (h0 : 0 < k) (hk : k < l.length) : tl l[k - 1].name < tl l[k].name :=
  List.pairwise_iff_getElem.1 ((rising_iff _).1 hr).2.1 (k - 1) k (by omega) hk (by omega)
theorem nodeOrder_c {l : List ByteArray} {o : Own} {t : Int} (ht0 : 0 ≤ t) (ht : t ≤ 255) {H : AHeap} {K : AVal → AHeap → Prop} (hK : K (.b true) H) : ACalls Try.prog 12 [.sl (encStrs l) o, .sc (.int .u8 t)] H K := by
  refine acalls_body Try.func12 rfl rfl rfl ?_
  have ll := strs_len l
  repeat first|(apply x1;apply r0;apply r0)|(apply x9;apply r0)|apply w4|apply w6|apply w7|apply w5
  refine awake08_c ?_
  repeat first|(apply x1;apply r0;apply r0)|apply w4|apply w6|apply w7|(apply w9;apply r0)|apply wa|apply w5
  refine s_gsplit rfl rfl (fun g2 => ?_) (fun g2 => ?_)<;>first|replace g2:=of_decide_eq_true g2|replace g2:=of_decide_eq_false g2
  case refine_1 =>
    repeat first|(apply gO;first|(apply x1;apply r0;apply r0)|apply w4|(apply w3;apply r0;apply r0))|(apply gW;first|apply w6|apply w7|(apply w8;apply r0)|apply wd)|apply w5|apply we
    exact rt1 (H' := H) rfl rfl (.refl _) s0 hK
  repeat first|(apply x1;apply r0;apply r0)|(apply x5;apply r0)|apply w4|apply w5
  refine aw_cond rfl (fun g3 => ?_) (fun g3 => ?_)<;>first|replace g3:=of_decide_eq_true g3|replace g3:=of_decide_eq_false g3
  · repeat first|(apply x1;apply r0;apply r0)|apply w4|apply w6|apply w7|apply wd|apply w5|apply we
    exact rt1 (H' := H) rfl rfl (.refl _) s0 hK
  have hl12 : l.length ≤ 12 := by omega
  have hl0 : 0 < l.length := by omega
  repeat first|(apply xbd;apply r0)|apply w6|apply w7|apply wa|apply w5
  refine s_alloc tk rfl rfl rfl (fun b6 hb6 => ?_); have hb := hb6; (try simp only [put_none_iff, prot_none_iff] at hb); (repeat obtain ⟨_, _, hb⟩ := hb)
  (apply xst;apply r0;(apply ps);apply r0)
  rw [put_put]
  refine aops_wk (ds := encNode dir0) rfl ?_
  repeat first|(apply xbd;apply r0)|apply w4|apply w6|apply w7|apply w5
  refine s_alloc tk rfl rfl rfl (fun b7 hb7 => ?_); have hb := hb7; (try simp only [put_none_iff, prot_none_iff] at hb); (repeat obtain ⟨_, _, hb⟩ := hb)
  (apply xst;apply r0;(apply ps);apply r0)
  rw [put_put]
  refine aops_wk (ds := encNode dir0) rfl ?_
  have n76 : b7 ≠ b6 := by assumption
  have n67 : b6 ≠ b7 := fun e => n76 e.symm
  have nb7 : H b7 = none := hb
  generalize hX : AHeap.put _ b7 _ = X
  have hTw : TwoSt H X b6 b7 dir0 dir0 := by rw [← hX]; exact ⟨(by with_reducible repeat first|assumption|apply ps|apply gp), (by apply ps), (by repeat first|exact s0|(apply su1;assumption))⟩
  clear hX
  repeat first|(apply x1;apply r0;apply r0)|apply w4|apply w6|apply w7|apply wb|apply w5
  refine aw_loop (fun s : Nat × Node × AHeap => s.1 ≤ l.length ∧ OrdSt (S1 l s.1) s.2.1 ∧ TwoSt H s.2.2 b6 b7 s.2.1 dir0 ∧ ∀ j (hj : j < l.length), j < s.1 → l[j].size ≤ 40) (fun s => [(0, .sl (encStrs l) o), (1, .sc (.int .u8 t)), (6, .ptr b6 0), (7, .ptr b7 0), (8, .i s.2.1.ents.length), (9, .i s.1)]) (fun s => s.2.2) (fun s => l.length - s.1) (0, dir0, X) ⟨Nat.zero_le _, dir0_ord (fun x h => by obtain ⟨j, hj, _⟩ := h; omega), hTw, fun j _ h => by omega⟩ (by repeat (first | exact Fr.sub_nil _ | refine Fr.sub_cons rfl ?_)) (AHeap.sub_refl _) ?_
  rintro ⟨i, a, Y⟩ ⟨hi, ho, hT, hsz⟩
  simp only at hi ho hT hsz
  have fx6 := hT.c6
  have fx7 := hT.c7
  have hsY := hT.sub
  have h8 : a.ents.length ≤ 8 := ((rising_iff _).1 ho.rising).2.2
  repeat first|(apply x1;apply r0;apply r0)|apply w4|apply w6|apply w7|apply w5
  refine aw_cond rfl (fun c => ?_) (fun c => ?_)<;>first|replace c:=of_decide_eq_true c|replace c:=of_decide_eq_false c
  · have c' : i < l.length := by omega
    have hget := strs_get l i c'
    repeat first|(apply x1;apply r0;apply r0)|apply w6|apply w7|apply wa|apply wb|apply w5
    refine s_index tk rfl rfl rfl rfl (by omega) hget rfl ?_
    repeat first|(apply x1;apply r0;apply r0)|(apply x3;apply r0)|apply w4|apply w5
    refine aw_cond rfl (fun c40 => ?_) (fun c40 => ?_)<;>first|replace c40:=of_decide_eq_true c40|replace c40:=of_decide_eq_false c40
    · repeat first|(apply gO;first|(apply x1;apply r0;apply r0)|apply w4)|(apply gW;first|apply w6|apply w7|apply wd)|apply w5|apply we|apply wj
      exact rt1 (H' := H) rfl rfl (.refl _) (by repeat assumption) hK
    have h40 : l[i].size ≤ 40 := by omega
    have a_few := ho.few
    have hgo : l[i]? = some l[i] := List.getElem?_eq_getElem c'
    have hsz' : ∀ j (hj : j < l.length), j < i + 1 → l[j].size ≤ 40 := fun j hj h => by
      rcases Nat.lt_or_ge j i with h2 | h2
      · exact hsz j hj h2
      · have : j = i := by omega
        subst this; exact h40
    generalize l[i] = nm at hget h40 hgo
    have S1s := S1_succ hgo
    repeat first|apply w6|apply wa|apply w5
    repeat apply w6
    refine aw_cutS (fun F' H' => ∃ b10, Y b10 = none ∧ Fr.sub [(0, .sl (encStrs l) o), (1, .sc (.int .u8 t)), (6, .ptr b6 0), (7, .ptr b7 0), (8, .i a.ents.length), (9, .i i), (10, .ptr b10 0), (11, .i (a.withE nm ((i : Int) + 1)))] F' ∧ (Y.put b10 (.cells (encNode (a.withN nm ((i : Int) + 1))))).sub H') ?_ ?_
    · refine aw_prot [b6] (allc (by with_reducible repeat exact q1 ‹_›) (allc0 _)) ?_
      refine aw_plan mixed (.take 0 (.take 1 (.take 2 (.take 3 (.take 4 (.take 5 (.take 6 (.two 7 11 (.take 8 (.take 9 (.take 10 (.one 11 (.one 12 (.take 13 .done)))))) (.one 7 (.take 8 (.take 9 (.take 10 (.one 12 (.take 13 .done)))))))))))))) (by kernel_rfl) ?_
      repeat first|(apply y1;apply r0;apply r0)|(apply y2;apply r0;apply r0;(with_reducible repeat first|exact q1 ‹_›|apply pg|exact mm0);apply r0)
      refine d_index rfl rfl rfl rfl rfl rfl (by omega) hget rfl ?_
      repeat first|(apply y1;apply r0;apply r0)|(apply y3;apply r0;apply r0)|(apply y6;apply r0;apply r0;omega)
      refine e_two rfl rfl ?_ ?_
      · repeat (apply x9;apply r0)
        refine nwith_c (n := a) (name := nm) (id := (i : Int) + 1) a_few.small (by omega) ?_
        repeat first|apply w4|(apply y1;apply r0;apply r0)|(apply y4;apply r0)
        refine s_alloc tk rfl rfl rfl (fun b10 hb10 => ?_); have hb := hb10; (try simp only [put_none_iff, prot_none_iff] at hb); (repeat obtain ⟨_, _, hb⟩ := hb)
        repeat first|(apply xst;apply r0;(apply ps);apply r0)|apply w4|(apply y1;apply r0;apply r0)|apply y0|(apply y4;apply r0)
        simp only [put_put]
        refine prot_done_put (by simp only [List.mem_cons,List.not_mem_nil,or_false,not_or]; first|exact (by first|assumption|exact n1 ‹_› ‹_›|exact n2 ‹_› ‹_›|exact n3 ‹_› ‹_›|exact n4 ‹_› ‹_›)|exact ⟨(by first|assumption|exact n1 ‹_› ‹_›|exact n2 ‹_› ‹_›|exact n3 ‹_› ‹_›|exact n4 ‹_› ‹_›),(by first|assumption|exact n1 ‹_› ‹_›|exact n2 ‹_› ‹_›|exact n3 ‹_› ‹_›|exact n4 ‹_› ‹_›)⟩|exact ⟨(by first|assumption|exact n1 ‹_› ‹_›|exact n2 ‹_› ‹_›|exact n3 ‹_› ‹_›|exact n4 ‹_› ‹_›),(by first|assumption|exact n1 ‹_› ‹_›|exact n2 ‹_› ‹_›|exact n3 ‹_› ‹_›|exact n4 ‹_› ‹_›),(by first|assumption|exact n1 ‹_› ‹_›|exact n2 ‹_› ‹_›|exact n3 ‹_› ‹_›|exact n4 ‹_› ‹_›)⟩) ?_
        repeat apply w5
        exact ⟨b10, hb, (by repeat (first | exact Fr.sub_nil _ | refine Fr.sub_cons rfl ?_)), s0⟩
      · skip
        refine s_alloc tk rfl rfl rfl (fun b10 hb10 => ?_); have hb := hb10; (try simp only [put_none_iff, prot_none_iff] at hb); (repeat obtain ⟨_, _, hb⟩ := hb)
        repeat first|(apply x9;apply r0)|apply w4|(apply y4;apply r0)
        refine nwith_c (n := a) (name := nm) (id := (i : Int) + 1) a_few.small (by omega) ?_
        repeat first|(apply xst;apply r0;(apply ps);apply r0)|apply w4|(apply y1;apply r0;apply r0)|apply y0|(apply y4;apply r0)
        simp only [put_put]
        refine prot_done_put (by simp only [List.mem_cons,List.not_mem_nil,or_false,not_or]; first|exact (by first|assumption|exact n1 ‹_› ‹_›|exact n2 ‹_› ‹_›|exact n3 ‹_› ‹_›|exact n4 ‹_› ‹_›)|exact ⟨(by first|assumption|exact n1 ‹_› ‹_›|exact n2 ‹_› ‹_›|exact n3 ‹_› ‹_›|exact n4 ‹_› ‹_›),(by first|assumption|exact n1 ‹_› ‹_›|exact n2 ‹_› ‹_›|exact n3 ‹_› ‹_›|exact n4 ‹_› ‹_›)⟩|exact ⟨(by first|assumption|exact n1 ‹_› ‹_›|exact n2 ‹_› ‹_›|exact n3 ‹_› ‹_›|exact n4 ‹_› ‹_›),(by first|assumption|exact n1 ‹_› ‹_›|exact n2 ‹_› ‹_›|exact n3 ‹_› ‹_›|exact n4 ‹_› ‹_›),(by first|assumption|exact n1 ‹_› ‹_›|exact n2 ‹_› ‹_›|exact n3 ‹_› ‹_›|exact n4 ‹_› ‹_›)⟩) ?_
        repeat apply w5
        exact ⟨b10, hb, (by repeat (first | exact Fr.sub_nil _ | refine Fr.sub_cons rfl ?_)), s0⟩
    rintro F' H' ⟨b10, hb10, hF, hH⟩
    refine AW_sub ?_ hF hH
    clear hF hH
    have g10 : H b10 = none := sub_none hsY hb10
    have n610 : b6 ≠ b10 := get_ne fx6 hb10
    have n710 : b7 ≠ b10 := get_ne fx7 hb10
    repeat first|(apply x1;apply r0;apply r0)|apply w4|apply w6|apply w7|apply w5
    refine aw_cond rfl (fun e0 => ?_) (fun e0 => ?_)<;>first|replace e0:=of_decide_eq_true e0|replace e0:=of_decide_eq_false e0
    · obtain ⟨q1, q2, q3, q4⟩ := ord_zero ho e0
      have q3' : OrdSt (S1 l (i + 1)) (a.withN nm ((i : Int) + 1)) := q3.congr (fun x => by rw [S1s x]; exact ⟨fun h => h.imp id (fun e => ⟨e, q1⟩), fun h => h.imp id (fun e => e.1)⟩)
      repeat first|(apply gO;first|(apply x1;apply r0;apply r0)|(apply x2;apply r0;(with_reducible repeat first|assumption|apply q0|apply gp);apply r0)|(apply xst;apply r0;(with_reducible repeat first|assumption|apply q0|apply gp);apply r0)|apply w4|(apply x6;apply r0;omega))|(apply gW;first|apply w6|apply w7)|apply w5
      refine aw_cond rfl (fun e1 => ?_) (fun e1 => ?_)<;>first|replace e1:=of_decide_eq_true e1|replace e1:=of_decide_eq_false e1
      · rw [e0] at e1; omega
      repeat first|(apply x1;apply r0;apply r0)|apply w4|(apply x6;apply r0;omega)|apply w7|apply wa|apply w5|apply wg
      refine nx (fun Z => (i + 1, a.withN nm ((i : Int) + 1), Z)) rfl ?_ (by show l.length - (i + 1) < l.length - i; omega) ?_
      · exact ⟨by show i + 1 ≤ l.length; omega, q3', ⟨(by apply get_eq;(focus apply ps);rfl), (by apply get_eq;(focus with_reducible repeat first|assumption|apply gp);rfl), (by repeat first|assumption|(apply su1;assumption))⟩, hsz'⟩
      · show Fr.sub [(0, .sl (encStrs l) o), (1, .sc (.int .u8 t)), (6, .ptr b6 0), (7, .ptr b7 0), (8, .i ((a.withN nm ((i : Int) + 1)).ents.length : Nat)), (9, .i ((i + 1 : Nat) : Int))] _
        rw [q4]
        exact (by repeat (first | exact Fr.sub_nil _ | refine Fr.sub_cons rfl ?_))
    · repeat first|(apply x1;apply r0;apply r0)|apply w4|apply w6|apply w7|apply wa|apply w5
      refine aw_cond rfl (fun e1 => ?_) (fun e1 => ?_)<;>first|replace e1:=of_decide_eq_true e1|replace e1:=of_decide_eq_false e1
      · repeat first|(apply gO;first|(apply x1;apply r0;apply r0)|apply w4)|(apply gW;first|apply w6|apply w7|apply wd)|apply w5|apply we|apply wj
        exact rt1 (H' := H) rfl rfl (.refl _) (by repeat first|assumption|(apply su1;assumption)) hK
      have q3' : OrdSt (S1 l (i + 1)) a := ho.congr (fun x => by
        rw [S1s x]
        refine ⟨.inl, fun h => h.elim id (fun e => ?_)⟩
        obtain ⟨rfl, e⟩ := e
        exact ord_not ho (by omega) e0 e1 e)
      repeat first|(apply x1;apply r0;apply r0)|apply w4|(apply x6;apply r0;omega)|apply w7|apply wa|apply w5|apply wg
      refine nx (fun Z => (i + 1, a, Z)) rfl ?_ (by show l.length - (i + 1) < l.length - i; omega) (by repeat (first | exact Fr.sub_nil _ | refine Fr.sub_cons rfl ?_))
      exact ⟨by show i + 1 ≤ l.length; omega, q3', ⟨(by apply get_eq;(focus with_reducible repeat first|assumption|apply gp);rfl), (by apply get_eq;(focus with_reducible repeat first|assumption|apply gp);rfl), (by repeat first|assumption|(apply su1;assumption))⟩, hsz'⟩
  have hie : i = l.length := by omega
  subst hie
  have hall : ∀ s ∈ l, s.size ≤ 40 := fun s hs => by
    obtain ⟨j, hj, rfl⟩ := List.mem_iff_getElem.1 hs
    exact hsz j hj hj
  have hT1 := hT
  repeat first|(apply gO;first|(apply x1;apply r0;apply r0)|apply w4)|(apply gW;first|apply w6|apply w7|apply wb|apply wc)|apply w5|apply wf|apply wh
  refine aw_loop (fun s : Nat × Node × AHeap => s.1 ≤ l.length ∧ OrdSt (S2 l t.toNat s.1) s.2.1 ∧ TwoSt H s.2.2 b6 b7 a s.2.1) (fun s => [(0, .sl (encStrs l) o), (1, .sc (.int .u8 t)), (6, .ptr b6 0), (7, .ptr b7 0), (8, .i a.ents.length), (12, .i s.1)]) (fun s => s.2.2) (fun s => l.length - s.1) (0, dir0, Y) ⟨Nat.zero_le _, dir0_ord (fun x h => by obtain ⟨j, hj, _⟩ := h; omega), hT1⟩ (by repeat (first | exact Fr.sub_nil _ | refine Fr.sub_cons rfl ?_)) s0 ?_
  rintro ⟨k, b, Z⟩ ⟨hk, hob, hTb⟩
  simp only at hk hob hTb
  have gx6 := hTb.c6
  have gx7 := hTb.c7
  have hsZ := hTb.sub
  repeat first|(apply x1;apply r0;apply r0)|apply w4|apply w6|apply w7|apply w5
  refine aw_cond rfl (fun c2 => ?_) (fun c2 => ?_)<;>first|replace c2:=of_decide_eq_true c2|replace c2:=of_decide_eq_false c2
  · have c2' : k < l.length := by omega
    have hjl : (k + t.toNat) % l.length < l.length := Nat.mod_lt _ (by omega)
    have hje : ((k : Int) + t) % (l.length : Int) = (((k + t.toNat) % l.length : Nat) : Int) := by
      rw [Int.natCast_emod]; congr 1; omega
    repeat first|(apply x1;apply r0;apply r0)|apply w6|apply w7|apply wa|apply wb|apply w5
    refine s_conv (r := t) tk rfl rfl rfl rfl (wrap_id ⟨by omega, by omega⟩) ?_
    repeat first|(apply x1;apply r0;apply r0)|(apply x6;apply r0;omega)
    refine s_rem rfl rfl rfl (by omega) (by omega) ?_
    rw [ll, hje]
    obtain ⟨J, hJ⟩ : ∃ J, (k + t.toNat) % l.length = J := ⟨_, rfl⟩
    rw [hJ] at hjl ⊢
    have hget := strs_get l J hjl
    have hgo : l[J]? = some l[J] := List.getElem?_eq_getElem hjl
    have h40 := hall _ (List.getElem_mem hjl)
    generalize l[J] = nm at hget h40 hgo
    have hgo2 : l[(k + t.toNat) % l.length]? = some nm := by rw [hJ]; exact hgo
    have S2s := S2_succ hgo2
    have b_few := hob.few
    have n28 : b.withE nm ((J : Int) + 1) ≠ 28 := fun e => by
      obtain ⟨q1, q2, q3⟩ := ord_full hob e
      have := ord_room ho hob (S2_sub l t.toNat k (by omega)) ⟨J, hjl, hgo, q1⟩ q2
      omega
    repeat first|(apply x1;apply r0;apply r0)|apply w4|apply w6|apply w5
    repeat apply w6
    refine aw_cutS (fun F' H' => ∃ b10, Z b10 = none ∧ Fr.sub [(0, .sl (encStrs l) o), (1, .sc (.int .u8 t)), (6, .ptr b6 0), (7, .ptr b7 0), (8, .i a.ents.length), (12, .i k), (14, .ptr b10 0), (15, .i (b.withE nm ((J : Int) + 1)))] F' ∧ (Z.put b10 (.cells (encNode (b.withN nm ((J : Int) + 1))))).sub H') ?_ ?_
    · refine aw_prot [b7] (allc (by with_reducible repeat exact q1 ‹_›) (allc0 _)) ?_
      refine aw_plan mixed (.take 0 (.take 1 (.take 2 (.take 3 (.take 4 (.take 5 (.take 6 (.two 7 11 (.take 8 (.take 9 (.take 10 (.one 11 (.one 12 (.take 13 .done)))))) (.one 7 (.take 8 (.take 9 (.take 10 (.one 12 (.take 13 .done)))))))))))))) (by kernel_rfl) ?_
      repeat first|(apply y1;apply r0;apply r0)|(apply y2;apply r0;apply r0;(with_reducible repeat first|exact q1 ‹_›|apply pg|exact mm0);apply r0)
      refine d_index rfl rfl rfl rfl rfl rfl (by omega) hget rfl ?_
      repeat first|(apply y1;apply r0;apply r0)|(apply y3;apply r0;apply r0)|(apply y6;apply r0;apply r0;omega)
      refine e_two rfl rfl ?_ ?_
      · repeat (apply x9;apply r0)
        refine nwith_c (n := b) (name := nm) (id := (J : Int) + 1) b_few.small (by omega) ?_
        repeat first|apply w4|(apply y1;apply r0;apply r0)|(apply y4;apply r0)
        refine s_alloc tk rfl rfl rfl (fun b10 hb10 => ?_); have hb := hb10; (try simp only [put_none_iff, prot_none_iff] at hb); (repeat obtain ⟨_, _, hb⟩ := hb)
        repeat first|(apply xst;apply r0;(apply ps);apply r0)|apply w4|(apply y1;apply r0;apply r0)|apply y0|(apply y4;apply r0)
        simp only [put_put]
        refine prot_done_put (by simp only [List.mem_cons,List.not_mem_nil,or_false,not_or]; first|exact (by first|assumption|exact n1 ‹_› ‹_›|exact n2 ‹_› ‹_›|exact n3 ‹_› ‹_›|exact n4 ‹_› ‹_›)|exact ⟨(by first|assumption|exact n1 ‹_› ‹_›|exact n2 ‹_› ‹_›|exact n3 ‹_› ‹_›|exact n4 ‹_› ‹_›),(by first|assumption|exact n1 ‹_› ‹_›|exact n2 ‹_› ‹_›|exact n3 ‹_› ‹_›|exact n4 ‹_› ‹_›)⟩|exact ⟨(by first|assumption|exact n1 ‹_› ‹_›|exact n2 ‹_› ‹_›|exact n3 ‹_› ‹_›|exact n4 ‹_› ‹_›),(by first|assumption|exact n1 ‹_› ‹_›|exact n2 ‹_› ‹_›|exact n3 ‹_› ‹_›|exact n4 ‹_› ‹_›),(by first|assumption|exact n1 ‹_› ‹_›|exact n2 ‹_› ‹_›|exact n3 ‹_› ‹_›|exact n4 ‹_› ‹_›)⟩) ?_
        repeat apply w5
        exact ⟨b10, hb, (by repeat (first | exact Fr.sub_nil _ | refine Fr.sub_cons rfl ?_)), s0⟩
      · skip
        refine s_alloc tk rfl rfl rfl (fun b10 hb10 => ?_); have hb := hb10; (try simp only [put_none_iff, prot_none_iff] at hb); (repeat obtain ⟨_, _, hb⟩ := hb)
        repeat first|(apply x9;apply r0)|apply w4|(apply y4;apply r0)
        refine nwith_c (n := b) (name := nm) (id := (J : Int) + 1) b_few.small (by omega) ?_
        repeat first|(apply xst;apply r0;(apply ps);apply r0)|apply w4|(apply y1;apply r0;apply r0)|apply y0|(apply y4;apply r0)
        simp only [put_put]
        refine prot_done_put (by simp only [List.mem_cons,List.not_mem_nil,or_false,not_or]; first|exact (by first|assumption|exact n1 ‹_› ‹_›|exact n2 ‹_› ‹_›|exact n3 ‹_› ‹_›|exact n4 ‹_› ‹_›)|exact ⟨(by first|assumption|exact n1 ‹_› ‹_›|exact n2 ‹_› ‹_›|exact n3 ‹_› ‹_›|exact n4 ‹_› ‹_›),(by first|assumption|exact n1 ‹_› ‹_›|exact n2 ‹_› ‹_›|exact n3 ‹_› ‹_›|exact n4 ‹_› ‹_›)⟩|exact ⟨(by first|assumption|exact n1 ‹_› ‹_›|exact n2 ‹_› ‹_›|exact n3 ‹_› ‹_›|exact n4 ‹_› ‹_›),(by first|assumption|exact n1 ‹_› ‹_›|exact n2 ‹_› ‹_›|exact n3 ‹_› ‹_›|exact n4 ‹_› ‹_›),(by first|assumption|exact n1 ‹_› ‹_›|exact n2 ‹_› ‹_›|exact n3 ‹_› ‹_›|exact n4 ‹_› ‹_›)⟩) ?_
        repeat apply w5
        exact ⟨b10, hb, (by repeat (first | exact Fr.sub_nil _ | refine Fr.sub_cons rfl ?_)), s0⟩
    rintro F' H' ⟨b10, hb10, hF, hH⟩
    refine AW_sub ?_ hF hH
    clear hF hH
    have g10 : H b10 = none := sub_none hsZ hb10
    have n610 : b6 ≠ b10 := get_ne gx6 hb10
    have n710 : b7 ≠ b10 := get_ne gx7 hb10
    repeat first|(apply x1;apply r0;apply r0)|apply w4|apply w6|apply w7|apply w5
    refine aw_cond rfl (fun e0 => ?_) (fun e0 => ?_)<;>first|replace e0:=of_decide_eq_true e0|replace e0:=of_decide_eq_false e0
    · obtain ⟨q1, q2, q3, q4⟩ := ord_zero hob e0
      have q3' : OrdSt (S2 l t.toNat (k + 1)) (b.withN nm ((J : Int) + 1)) := q3.congr (fun x => by rw [S2s x]; exact ⟨fun h => h.imp id (fun e => ⟨e, q1⟩), fun h => h.imp id (fun e => e.1)⟩)
      repeat first|(apply gO;first|(apply x1;apply r0;apply r0)|(apply x2;apply r0;(with_reducible repeat first|assumption|apply q0|apply gp);apply r0)|(apply xst;apply r0;(with_reducible repeat first|assumption|apply q0|apply gp);apply r0)|apply w4|(apply x6;apply r0;omega))|apply w7|apply w5|apply wg
      refine nx (fun Z => (k + 1, b.withN nm ((J : Int) + 1), Z)) rfl ?_ (by show l.length - (k + 1) < l.length - k; omega) (by repeat (first | exact Fr.sub_nil _ | refine Fr.sub_cons rfl ?_))
      exact ⟨by show k + 1 ≤ l.length; omega, q3', ⟨(by apply get_eq;(focus with_reducible repeat first|assumption|apply gp);rfl), (by apply get_eq;(focus apply ps);rfl), (by repeat first|assumption|(apply su1;assumption))⟩⟩
    · have q3' : OrdSt (S2 l t.toNat (k + 1)) b := hob.congr (fun x => by
        rw [S2s x]
        refine ⟨.inl, fun h => h.elim id (fun e => ?_)⟩
        obtain ⟨rfl, e⟩ := e
        exact ord_not hob (by omega) e0 n28 e)
      repeat first|(apply x1;apply r0;apply r0)|apply w4|(apply x6;apply r0;omega)|apply w7|apply wa|apply w5|apply wg
      refine nx (fun Z => (k + 1, b, Z)) rfl ?_ (by show l.length - (k + 1) < l.length - k; omega) (by repeat (first | exact Fr.sub_nil _ | refine Fr.sub_cons rfl ?_))
      exact ⟨by show k + 1 ≤ l.length; omega, q3', ⟨(by apply get_eq;(focus with_reducible repeat first|assumption|apply gp);rfl), (by apply get_eq;(focus with_reducible repeat first|assumption|apply gp);rfl), (by repeat first|assumption|(apply su1;assumption))⟩⟩
  have hke : k = l.length := by omega
  subst hke
  have hsame := ord_same ho hob (fun x => (S2_all l t.toNat x).symm)
  have ra := ho.rising
  have lna : (encStrs (entNames a.ents)).length = a.ents.length := by simp [encStrs, entNames]
  repeat first|(apply gO;first|(apply x2;apply r0;(with_reducible repeat exact q1 ‹_›);apply r0)|(apply x9;apply r0))|(apply gW;first|apply w6|apply w7|apply wc)|apply w5|apply wf|apply wh
  refine names_c ho.few.small ?_
  rw [names_sorted ra]
  repeat first|(apply x1;apply r0;apply r0)|apply w4|apply w6|apply w7|apply wb|apply w5
  refine aw_loop (fun k : Nat => 1 ≤ k ∧ k ≤ a.ents.length + 1) (fun k => [(6, .ptr b6 0), (7, .ptr b7 0), (8, .i a.ents.length), (16, .sl (encStrs (entNames a.ents)) .no), (17, .i k)]) (fun _ => Z) (fun k => a.ents.length + 1 - k) 1 ⟨Nat.le_refl _, by omega⟩ (by repeat (first | exact Fr.sub_nil _ | refine Fr.sub_cons rfl ?_)) s0 ?_
  rintro k ⟨hk1, hk2⟩
  repeat first|(apply x1;apply r0;apply r0)|apply w4|apply w6|apply w7|apply w5
  refine aw_cond rfl (fun c3 => ?_) (fun c3 => ?_)<;>first|replace c3:=of_decide_eq_true c3|replace c3:=of_decide_eq_false c3
  · have c3' : k < a.ents.length := by omega
    have hlt := order_less ra hk1 c3'
    have hget1 : (encStrs (entNames a.ents))[((k : Int) - 1).toNat]? = some [.s a.ents[k - 1].name] := by
      rw [show ((k : Int) - 1).toNat = k - 1 by omega]
      simp [encStrs, entNames, show k - 1 < a.ents.length by omega]
    have hget2 : (encStrs (entNames a.ents))[(k : Int).toNat]? = some [.s a.ents[k].name] := by simp [encStrs, entNames, c3']
    repeat first|apply w6|apply wa|apply wb|apply w5
    refine aw_plan mixed (.take 0 (.take 1 (.take 2 (.take 3 (.take 4 (.take 5 (.take 6 (.take 7 (.take 8 (.take 9 .done)))))))))) (by kernel_rfl) ?_
    repeat first|(apply y1;apply r0;apply r0)|(apply y7;apply r0;apply r0;omega)
    refine d_index rfl rfl rfl rfl rfl rfl (by omega) hget1 rfl ?_
    repeat first|(apply y1;apply r0;apply r0)|(apply y3;apply r0;apply r0)
    refine d_index rfl rfl rfl rfl rfl rfl (by omega) hget2 rfl ?_
    repeat first|(apply y1;apply r0;apply r0)|apply y0|(apply y3;apply r0;apply r0)|apply w5
    refine aw_cond rfl (fun e => ?_) (fun e => ?_)
    · rw [bless, decide_eq_true hlt] at e; cases e
    repeat first|(apply x1;apply r0;apply r0)|apply w4|(apply x6;apply r0;omega)|apply w7|apply wa|apply w5|apply wg
    exact ⟨k + 1, ⟨by omega, by omega⟩, by omega, (by repeat (first | exact Fr.sub_nil _ | refine Fr.sub_cons rfl ?_)), s0⟩
  repeat first|(apply gO;first|(apply x2;apply r0;(with_reducible repeat exact q1 ‹_›);apply r0)|(apply x9;apply r0))|(apply gW;first|apply w6|apply w7|apply wc)|apply w5|apply wf|apply wh
  refine size_c ?_
  rw [show a.size = (a.ents.length : Int) by unfold Node.size; rw [ho.kind]; rfl]
  repeat (apply x1;apply r0;apply r0)
  refine s_gsplit rfl rfl (fun e1 => ?_) (fun e1 => ?_)<;>first|replace e1:=of_decide_eq_true e1|replace e1:=of_decide_eq_false e1
  case refine_2 => exact (e1 rfl).elim
  repeat first|(apply x1;apply r0;apply r0)|(apply x2;apply r0;(with_reducible repeat exact q1 ‹_›);apply r0)|(apply x5;apply r0)|(apply x9;apply r0)
  refine names_c hob.few.small ?_
  rw [names_sorted hob.rising]
  repeat first|(apply x5;apply r0)|(apply x9;apply r0)
  refine rsames_c (by simp [entNames]; omega) ?_
  rw [decide_eq_true hsame]
  repeat first|(apply x1;apply r0;apply r0)|(apply x5;apply r0)
  refine s_gsplit rfl rfl (fun e2 => ?_) (fun e2 => ?_)<;>first|replace e2:=of_decide_eq_true e2|replace e2:=of_decide_eq_false e2
  case refine_2 => exact absurd e2 (by rw [lna]; simp)
  repeat first|(apply x2;apply r0;(with_reducible repeat exact q1 ‹_›);apply r0)|(apply x5;apply r0)|(apply x9;apply r0)
  refine right_c ho.few.small ?_
  rw [ho.ok]
  repeat first|(apply x1;apply r0;apply r0)|apply w4|apply wd|apply w5
  exact rt1 (H' := H) rfl rfl (.refl _) (by repeat assumption) hK
end Abs
end Go.Proofs.Ytmokoofibnoojaa
