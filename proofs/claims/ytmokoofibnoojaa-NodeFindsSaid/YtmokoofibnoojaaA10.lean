import Derived.Test.YtmokoofibnoojaaA9
import Derived.Test.YtmokoofibnoojaaW0
set_option linter.unusedVariables false
namespace Go.Proofs.Ytmokoofibnoojaa
namespace Abs

/-! ### A plan for a statement whose order is open -/
inductive Plan where
  | done
  | take (i : Nat) (p : Plan)
  | one (i : Nat) (p : Plan)
  | two (i j : Nat) (p q : Plan)
  | three (i j k : Nat) (p q r : Plan)

def planOk (ops : Array Oper) : Nat → Array Bool → Plan → Bool
  | _, listed, .done => (Region.ready .any ops listed).isEmpty
  | fuel + 1, listed, .take i p => Region.noSelect ops && Region.free .any ops listed i && (Region.ready .any ops listed).contains i && planOk ops fuel (listed.setIfInBounds i true) p
  | fuel + 1, listed, .one i p => (Region.ready .any ops listed == [i]) && planOk ops fuel (listed.setIfInBounds i true) p
  | fuel + 1, listed, .two i j p q => (Region.ready .any ops listed == [i, j]) && (planOk ops fuel (listed.setIfInBounds i true) p && planOk ops fuel (listed.setIfInBounds j true) q)
  | fuel + 1, listed, .three i j k p q r => (Region.ready .any ops listed == [i, j, k]) && (planOk ops fuel (listed.setIfInBounds i true) p && (planOk ops fuel (listed.setIfInBounds j true) q && planOk ops fuel (listed.setIfInBounds k true) r))
  | 0, _, _ => false

def AP (P : Program) (n : Nat) (ops : Array Oper) : Plan → Fr → AHeap → APost → Prop
  | .done, F, H, K => ∃ F0, F0.sub F ∧ K F0 H
  | .take i p, F, H, K => ∃ F0, F0.sub F ∧ ∃ o, ops[i]? = some o ∧ dstOk n o.dst = true ∧ ((gval ops F0 o.guard = some true ∧ ∃ v, Stab P n o F0 H v ∧ AP P n ops p (F0.put o.dst v) H K) ∨ (gval ops F0 o.guard = some false ∧ AP P n ops p (F0.put o.dst (.tup [])) H K))
  | .one i p, F, H, K => ∃ o, ops[i]? = some o ∧ AOps P n ops [o] F H (fun F' H' => AP P n ops p F' H' K)
  | .two i j p q, F, H, K => (∃ o, ops[i]? = some o ∧ AOps P n ops [o] F H (fun F' H' => AP P n ops p F' H' K)) ∧ (∃ o, ops[j]? = some o ∧ AOps P n ops [o] F H (fun F' H' => AP P n ops q F' H' K))
  | .three i j k p q r, F, H, K => (∃ o, ops[i]? = some o ∧ AOps P n ops [o] F H (fun F' H' => AP P n ops p F' H' K)) ∧ ((∃ o, ops[j]? = some o ∧ AOps P n ops [o] F H (fun F' H' => AP P n ops q F' H' K)) ∧ (∃ o, ops[k]? = some o ∧ AOps P n ops [o] F H (fun F' H' => AP P n ops r F' H' K)))

section
variable {P : Program} {tt : TT} {n : Nat} {ops : Array Oper} {F : Fr} {H : AHeap} {K : APost}

theorem sub_trans {F F' F2 : Fr} (h : F.sub F') (k : F'.sub F2) : F.sub F2 := fun t v hv => let ⟨v1, h1, w1⟩ := h t v hv; let ⟨v2, h2, w2⟩ := k t v1 h1; ⟨v2, h2, w2.trans w1⟩
theorem ap_ok : ∀ (p : Plan) (fuel : Nat) (listed : Array Bool) (F : Fr) (H : AHeap), planOk ops fuel listed p = true → AP P n ops p F H K → AAny P n ops fuel listed F H K
  | .done, fuel, listed, F, H, hc, ⟨F0, hs, h⟩ => AAny_sub (a_done (by cases fuel <;> simpa [planOk] using hc) h) hs (AHeap.sub_refl _)
  | .take i p, 0, listed, F, H, hc, h => by simp [planOk] at hc
  | .take i p, fuel + 1, listed, F, H, hc, h => by
    simp only [planOk, Bool.and_eq_true] at hc
    obtain ⟨F0, hF0, o, ho, hd, h⟩ := h
    refine AAny_sub ?_ hF0 (AHeap.sub_refl _)
    have hc' : (Region.noSelect ops && Region.free .any ops listed i && (Region.ready .any ops listed).contains i) = true := by simp only [Bool.and_eq_true]; exact hc.1
    rcases h with ⟨hg, v, hs, h⟩ | ⟨hg, h⟩
    · exact a_take i ho hc' hd hg hs (ap_ok p fuel _ _ _ hc.2 h)
    · exact a_skip i ho hc' hd hg (ap_ok p fuel _ _ _ hc.2 h)
  | .one i p, 0, listed, F, H, hc, h => by simp [planOk] at hc
  | .one i p, fuel + 1, listed, F, H, hc, h => by
    simp only [planOk, Bool.and_eq_true, beq_iff_eq] at hc
    obtain ⟨o, ho, h⟩ := h
    exact a_one i hc.1 ho (AOps_mono h fun F' H' h' => ap_ok p fuel _ _ _ hc.2 h')
  | .two i j p q, 0, listed, F, H, hc, h => by simp [planOk] at hc
  | .two i j p q, fuel + 1, listed, F, H, hc, h => by
    simp only [planOk, Bool.and_eq_true, beq_iff_eq] at hc
    obtain ⟨⟨o, ho, h1⟩, ⟨o2, ho2, h2⟩⟩ := h
    exact a_two i j hc.1 ho ho2 (AOps_mono h1 fun F' H' h' => ap_ok p fuel _ _ _ hc.2.1 h') (AOps_mono h2 fun F' H' h' => ap_ok q fuel _ _ _ hc.2.2 h')
  | .three i j k p q r, 0, listed, F, H, hc, h => by simp [planOk] at hc
  | .three i j k p q r, fuel + 1, listed, F, H, hc, h => by
    simp only [planOk, Bool.and_eq_true, beq_iff_eq] at hc
    obtain ⟨⟨o, ho, h1⟩, ⟨o2, ho2, h2⟩, ⟨o3, ho3, h3⟩⟩ := h
    refine a_all hc.1 rfl fun x hx => ?_
    have : x = i ∨ x = j ∨ x = k := by simpa using hx
    rcases this with rfl | rfl | rfl
    · exact ⟨o, ho, AOps_mono h1 fun F' H' h' => ap_ok p fuel _ _ _ hc.2.1 h'⟩
    · exact ⟨o2, ho2, AOps_mono h2 fun F' H' h' => ap_ok q fuel _ _ _ hc.2.2.1 h'⟩
    · exact ⟨o3, ho3, AOps_mono h3 fun F' H' h' => ap_ok r fuel _ _ _ hc.2.2.2 h'⟩

theorem aw_plan {id : Nat} {l : List Oper} {Q : AQ} (hm : P.follows .mixedOrders = true) (p : Plan) (hc : planOk l.toArray l.length (Array.replicate l.length false) p = true) (h : AP P n l.toArray p F H (fun F' H' => Q .normal F' H')) : AW P n (.region id l.toArray true) F H Q :=
  aw_draw hm (ap_ok p _ _ _ _ hc h)

theorem AP_sub : ∀ (p : Plan) {F F' : Fr} {H : AHeap}, AP P n ops p F H K → F.sub F' → AP P n ops p F' H K
  | .done, F, F', H, ⟨F0, hs, h⟩, hs' => ⟨F0, sub_trans hs hs', h⟩
  | .take i p, F, F', H, ⟨F0, hs, h⟩, hs' => ⟨F0, sub_trans hs hs', h⟩
  | .one i p, F, F', H, ⟨o, ho, h⟩, hs => ⟨o, ho, AOps_sub h hs (AHeap.sub_refl _)⟩
  | .two i j p q, F, F', H, ⟨⟨o, ho, h⟩, ⟨o2, ho2, h2⟩⟩, hs => ⟨⟨o, ho, AOps_sub h hs (AHeap.sub_refl _)⟩, ⟨o2, ho2, AOps_sub h2 hs (AHeap.sub_refl _)⟩⟩
  | .three i j k p q r, F, F', H, ⟨⟨o, ho, h⟩, ⟨o2, ho2, h2⟩, ⟨o3, ho3, h3⟩⟩, hs => ⟨⟨o, ho, AOps_sub h hs (AHeap.sub_refl _)⟩, ⟨o2, ho2, AOps_sub h2 hs (AHeap.sub_refl _)⟩, ⟨o3, ho3, AOps_sub h3 hs (AHeap.sub_refl _)⟩⟩
end

section
variable {n : Nat} {ops : Array Oper} {F : Fr} {H : AHeap} {K : APost} {i : Nat} {p : Plan} {dst : Option Tmp} {op : Op} {ty : TypeId} {pos : String} {af : Array Edge} {gd : Option (Nat × Bool)}

theorem d_stab {v : AVal} (ho : ops[i]? = some ⟨dst, op, ty, pos, af, gd⟩) (hg : gval ops F gd = some true) (hd : dstOk n dst = true) (hs : Stab Try.prog n ⟨dst, op, ty, pos, af, none⟩ F H v) (h : AP Try.prog n ops p (F.put dst v) H K) : AP Try.prog n ops (.take i p) F H K :=
  ⟨F, Fr.sub_refl _, _, ho, hd, .inl ⟨hg, v, hs, h⟩⟩
theorem d1 {v : AVal} (ho : ops[i]? = some ⟨dst, op, ty, pos, af, gd⟩) (hg : gval ops F gd = some true) (hd : dstOk n dst = true) (hv : pev ttab F op = some v) (h : AP Try.prog n ops p (F.put dst v) H K) : AP Try.prog n ops (.take i p) F H K :=
  d_stab ho hg hd (pev_ok tk hv).stab h
theorem d2 (ho : ops[i]? = some ⟨dst, op, ty, pos, af, gd⟩) (hg : gval ops F gd = some false) (hd : dstOk n dst = true) (h : AP Try.prog n ops p (F.put dst (.tup [])) H K) : AP Try.prog n ops (.take i p) F H K := ⟨F, Fr.sub_refl _, _, ho, hd, .inr ⟨hg, h⟩⟩
theorem d3 (h : K F H) : AP Try.prog n ops .done F H K := ⟨F, Fr.sub_refl _, h⟩
theorem d4 {o : Oper} (ho : ops[i]? = some o) (h : AOps Try.prog n ops [o] F H (fun F' H' => AP Try.prog n ops p F' H' K)) : AP Try.prog n ops (.one i p) F H K := ⟨o, ho, h⟩
theorem d_two {j : Nat} {q : Plan} {o o2 : Oper} (ho : ops[i]? = some o) (ho2 : ops[j]? = some o2) (h : AOps Try.prog n ops [o] F H (fun F' H' => AP Try.prog n ops p F' H' K)) (h2 : AOps Try.prog n ops [o2] F H (fun F' H' => AP Try.prog n ops q F' H' K)) : AP Try.prog n ops (.two i j p q) F H K := ⟨⟨o, ho, h⟩, ⟨o2, ho2, h2⟩⟩
theorem d_ro {t : TypeId} {x : Operand} {b off k : Nat} {cs : List AVal} {v : AVal} (ho : ops[i]? = some ⟨dst, .load t x, ty, pos, af, gd⟩) (hg : gval ops F gd = some true) (hd : dstOk n dst = true) (hx : opd F x = some (.ptr b off)) (hH : H b = some (.ro cs)) (ht : find ttab.size t = some (k, false)) (hv : cs[off]? = some v)
    (h : AP Try.prog n ops p (F.put dst v) H K) : AP Try.prog n ops (.take i p) F H K := d_stab ho hg hd (stab_ro_sc tk hx hH ht hv) h
theorem d_roa {t : TypeId} {x : Operand} {b off k : Nat} {cs ds : List AVal} (ho : ops[i]? = some ⟨dst, .load t x, ty, pos, af, gd⟩) (hg : gval ops F gd = some true) (hd : dstOk n dst = true) (hx : opd F x = some (.ptr b off)) (hH : H b = some (.ro cs)) (ht : find ttab.size t = some (k, true)) (hl : off + k ≤ cs.length) (hds : (cs.drop off).take k = ds)
    (h : AP Try.prog n ops p (F.put dst (.agg ds)) H K) : AP Try.prog n ops (.take i p) F H K := d_stab ho hg hd (stab_ro_agg tk hx hH ht hl hds) h
theorem d_ept {t : TypeId} {x : Operand} {c : List AVal} {off k : Nat} {v : AVal} (ho : ops[i]? = some ⟨dst, .load t x, ty, pos, af, gd⟩) (hg : gval ops F gd = some true) (hd : dstOk n dst = true) (hx : opd F x = some (.ept c off)) (ht : find ttab.size t = some (k, false)) (hv : c[off]? = some v)
    (h : AP Try.prog n ops p (F.put dst v) H K) : AP Try.prog n ops (.take i p) F H K := d_stab ho hg hd (stab_ept_sc tk hx ht hv) h
theorem d_epta {t : TypeId} {x : Operand} {c ds : List AVal} {off k : Nat} (ho : ops[i]? = some ⟨dst, .load t x, ty, pos, af, gd⟩) (hg : gval ops F gd = some true) (hd : dstOk n dst = true) (hx : opd F x = some (.ept c off)) (ht : find ttab.size t = some (k, true)) (hl : off + k ≤ c.length) (hds : (c.drop off).take k = ds)
    (h : AP Try.prog n ops p (F.put dst (.agg ds)) H K) : AP Try.prog n ops (.take i p) F H K := d_stab ho hg hd (stab_ept_agg tk hx ht hl hds) h
theorem d_pick {c x y : Operand} {b u v : Bool} (ho : ops[i]? = some ⟨dst, .pick c x y, ty, pos, af, gd⟩) (hg : gval ops F gd = some true) (hd : dstOk n dst = true) (hc : opd F c = some (.sc (.bool b))) (hx : opd F x = some (.sc (.bool u))) (hy : opd F y = some (.sc (.bool v)))
    (h : AP Try.prog n ops p (F.put dst (.sc (.bool (bif b then u else v)))) H K) : AP Try.prog n ops (.take i p) F H K := d_stab ho hg hd (pures_pick hc hx hy).stab h
theorem d_add {t yt : TypeId} {x y : Operand} {u v : Int} (ho : ops[i]? = some ⟨dst, .binOp .add t x y yt, ty, pos, af, gd⟩) (hg : gval ops F gd = some true) (hd : dstOk n dst = true) (hx : opd F x = some (.sc (.int .i64 u))) (hy : opd F y = some (.sc (.int .i64 v))) (hb : -9223372036854775808 ≤ u + v ∧ u + v ≤ 9223372036854775807)
    (h : AP Try.prog n ops p (F.put dst (.sc (.int .i64 (u + v)))) H K) : AP Try.prog n ops (.take i p) F H K := d_stab ho hg hd (pures_arith hx hy (by simp only [wrap_id hb])).stab h
theorem d_sub {t yt : TypeId} {x y : Operand} {u v : Int} (ho : ops[i]? = some ⟨dst, .binOp .sub t x y yt, ty, pos, af, gd⟩) (hg : gval ops F gd = some true) (hd : dstOk n dst = true) (hx : opd F x = some (.sc (.int .i64 u))) (hy : opd F y = some (.sc (.int .i64 v))) (hb : -9223372036854775808 ≤ u - v ∧ u - v ≤ 9223372036854775807)
    (h : AP Try.prog n ops p (F.put dst (.sc (.int .i64 (u - v)))) H K) : AP Try.prog n ops (.take i p) F H K := d_stab ho hg hd (pures_arith hx hy (by simp only [wrap_id hb])).stab h
theorem d_index {t : TypeId} {x y : Operand} {xs : List (List AVal)} {o : Own} {k : IntKind} {q : Int} {e es eb : Nat} {c : List AVal} (ho : ops[i]? = some ⟨dst, .indexAddr t x y, ty, pos, af, gd⟩) (hg : gval ops F gd = some true) (hd : dstOk n dst = true) (hx : opd F x = some (.sl xs o)) (hi : opd F y = some (.sc (.int k q)))
    (ht : find ttab.slc t = some (e, es, eb)) (h0 : 0 ≤ q) (hc : xs[q.toNat]? = some c) (hl : c.length = es) (h : AP Try.prog n ops p (F.put dst (.ept c 0)) H K) : AP Try.prog n ops (.take i p) F H K := d_stab ho hg hd (pures_index_sl tk hx hi ht h0 hc hl).stab h
theorem d_indexa {t : TypeId} {x y : Operand} {b off : Nat} {k : IntKind} {q : Int} {m e es : Nat} {ag : Bool} (ho : ops[i]? = some ⟨dst, .indexAddr t x y, ty, pos, af, gd⟩) (hg : gval ops F gd = some true) (hd : dstOk n dst = true) (hx : opd F x = some (.ptr b off)) (hi : opd F y = some (.sc (.int k q)))
    (ht : find ttab.arr t = some (m, e)) (hs : find ttab.size e = some (es, ag)) (h0 : 0 ≤ q) (h1 : q < m) (h : AP Try.prog n ops p (F.put dst (.ptr b (off + q.toNat * es))) H K) : AP Try.prog n ops (.take i p) F H K := d_stab ho hg hd (pures_index_arr tk hx hi ht hs h0 h1).stab h
theorem d_indexr {t : TypeId} {x y : Operand} {b off m cap : Nat} {k : IntKind} {q : Int} {e es eb : Nat} (ho : ops[i]? = some ⟨dst, .indexAddr t x y, ty, pos, af, gd⟩) (hg : gval ops F gd = some true) (hd : dstOk n dst = true) (hx : opd F x = some (.row b off m cap)) (hi : opd F y = some (.sc (.int k q)))
    (ht : find ttab.slc t = some (e, es, eb)) (h0 : 0 ≤ q) (h1 : q < m) (h : AP Try.prog n ops p (F.put dst (.ptr b (off + q.toNat * es))) H K) : AP Try.prog n ops (.take i p) F H K := d_stab ho hg hd (pures_index_row tk hx hi ht h0 h1).stab h
theorem d_indexs {t : TypeId} {x y : Operand} {s : ByteArray} {k : IntKind} {q : Int} {u : Unit} {c : UInt8} (ho : ops[i]? = some ⟨dst, .index t x y, ty, pos, af, gd⟩) (hg : gval ops F gd = some true) (hd : dstOk n dst = true) (hx : opd F x = some (.sc (.string s))) (hi : opd F y = some (.sc (.int k q))) (ht : find ttab.strs t = some u)
    (h0 : 0 ≤ q) (hc : s.data.toList[q.toNat]? = some c) (h : AP Try.prog n ops p (F.put dst (.sc (.int .u8 c.toNat))) H K) : AP Try.prog n ops (.take i p) F H K := d_stab ho hg hd (pures_index_str tk hx hi ht h0 hc).stab h
/-- A guard that is not known: both ways. -/
theorem d_split {j : Nat} {want b : Bool} {d : Nat} (ho : ops[i]? = some ⟨dst, op, ty, pos, af, some (j, want)⟩) (hj : (ops[j]?).bind (·.dst) = some d) (hx : F.get d = some (.sc (.bool b)))
    (ht : b = true → AP Try.prog n ops (.take i p) ((d, .sc (.bool true)) :: F) H K) (hf : b = false → AP Try.prog n ops (.take i p) ((d, .sc (.bool false)) :: F) H K) : AP Try.prog n ops (.take i p) F H K := by
  cases b with
  | true => exact AP_sub _ (ht rfl) (Fr.sub_cons hx (Fr.sub_refl _))
  | false => exact AP_sub _ (hf rfl) (Fr.sub_cons hx (Fr.sub_refl _))
end
theorem prot_get {H : AHeap} {bs : List Nat} {b : Nat} {cs : List AVal} (hm : b ∈ bs) (h : Rd H b cs) : H.prot bs b = some (.ro cs) := by
  rcases h with h | h <;> simp [AHeap.prot, hm, h, roOf]
theorem prot_other {H : AHeap} {bs : List Nat} {b : Nat} (hm : b ∉ bs) : H.prot bs b = H b := by simp [AHeap.prot, hm]
theorem back_prot (H : AHeap) (bs : List Nat) : (H.prot bs).back H bs = H := by
  funext x
  unfold AHeap.back AHeap.prot
  split
  · rfl
  · first | rfl | simp
theorem prot_done {H : AHeap} {bs : List Nat} {Q : AHeap → Prop} (h : Q H) : (∀ b, b ∈ bs → H.prot bs b = H.prot bs b) ∧ Q ((H.prot bs).back H bs) := ⟨fun _ _ => rfl, by rw [back_prot]; exact h⟩
theorem allc0 (H : AHeap) : allCells H [] := fun b h => by cases h
theorem allc {H : AHeap} {b : Nat} {bs : List Nat} {cs : List AVal} (h : Rd H b cs) (k : allCells H bs) : allCells H (b :: bs) := fun x hx => by
  rcases List.mem_cons.1 hx with rfl | hx
  · exact ⟨cs, h⟩
  · exact k x hx
end Abs
end Go.Proofs.Ytmokoofibnoojaa
