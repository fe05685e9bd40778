import Derived.Test.YtbldnaflffmddaaA4
import Derived.Laws.MakeOwn
import Derived.Laws.StructEq
import Derived.Laws.CopyRow
set_option linter.unusedVariables false
namespace Go.Proofs.Ytbldnaflffmddaa
namespace Abs

/-! ### A plan for a statement whose order is open -/
inductive Plan where
  | done
  | take (i : Nat) (p : Plan)
  | one (i : Nat) (p : Plan)
  | two (i j : Nat) (p q : Plan)
  | three (i j k : Nat) (p q r : Plan)

def planOk (ops : Array Oper) : Nat → Array Bool → Plan → Bool
  | _, listed, .done => (Region.ready .any ops listed).isEmpty
  | fuel + 1, listed, .take i p => Region.noSelect ops && Region.free .any ops listed i && (Region.ready .any ops listed).contains i && planOk ops fuel (listed.setIfInBounds i true) p
  | fuel + 1, listed, .one i p => (Region.ready .any ops listed == [i]) && planOk ops fuel (listed.setIfInBounds i true) p
  | fuel + 1, listed, .two i j p q => (Region.ready .any ops listed == [i, j]) && (planOk ops fuel (listed.setIfInBounds i true) p && planOk ops fuel (listed.setIfInBounds j true) q)
  | fuel + 1, listed, .three i j k p q r => (Region.ready .any ops listed == [i, j, k]) && (planOk ops fuel (listed.setIfInBounds i true) p && (planOk ops fuel (listed.setIfInBounds j true) q && planOk ops fuel (listed.setIfInBounds k true) r))
  | 0, _, _ => false

def AP (P : Program) (n : Nat) (ops : Array Oper) : Plan → Fr → AHeap → APost → Prop
  | .done, F, H, K => ∃ F0, F0.sub F ∧ K F0 H
  | .take i p, F, H, K => ∃ F0, F0.sub F ∧ ∃ o, ops[i]? = some o ∧ dstOk n o.dst = true ∧ ((gval ops F0 o.guard = some true ∧ ∃ v, Stab P n o F0 H v ∧ AP P n ops p (F0.put o.dst v) H K) ∨ (gval ops F0 o.guard = some false ∧ AP P n ops p (F0.put o.dst (.tup [])) H K))
  | .one i p, F, H, K => ∃ o, ops[i]? = some o ∧ AOps P n ops [o] F H (fun F' H' => AP P n ops p F' H' K)
  | .two i j p q, F, H, K => (∃ o, ops[i]? = some o ∧ AOps P n ops [o] F H (fun F' H' => AP P n ops p F' H' K)) ∧ (∃ o, ops[j]? = some o ∧ AOps P n ops [o] F H (fun F' H' => AP P n ops q F' H' K))
  | .three i j k p q r, F, H, K => (∃ o, ops[i]? = some o ∧ AOps P n ops [o] F H (fun F' H' => AP P n ops p F' H' K)) ∧ ((∃ o, ops[j]? = some o ∧ AOps P n ops [o] F H (fun F' H' => AP P n ops q F' H' K)) ∧ (∃ o, ops[k]? = some o ∧ AOps P n ops [o] F H (fun F' H' => AP P n ops r F' H' K)))

section
variable {P : Program} {tt : TT} {n : Nat} {ops : Array Oper} {F : Fr} {H : AHeap} {K : APost}

theorem sub_trans {F F' F2 : Fr} (h : F.sub F') (k : F'.sub F2) : F.sub F2 := fun t v hv => let ⟨v1, h1, w1⟩ := h t v hv; let ⟨v2, h2, w2⟩ := k t v1 h1; ⟨v2, h2, w2.trans w1⟩
theorem ap_ok : ∀ (p : Plan) (fuel : Nat) (listed : Array Bool) (F : Fr) (H : AHeap), planOk ops fuel listed p = true → AP P n ops p F H K → AAny P n ops fuel listed F H K
  | .done, fuel, listed, F, H, hc, ⟨F0, hs, h⟩ => AAny_sub (a_done (by cases fuel <;> simpa [planOk] using hc) h) hs (AHeap.sub_refl _)
  | .take i p, 0, listed, F, H, hc, h => by simp [planOk] at hc
  | .take i p, fuel + 1, listed, F, H, hc, h => by
    simp only [planOk, Bool.and_eq_true] at hc
    obtain ⟨F0, hF0, o, ho, hd, h⟩ := h
    refine AAny_sub ?_ hF0 (AHeap.sub_refl _)
    have hc' : (Region.noSelect ops && Region.free .any ops listed i && (Region.ready .any ops listed).contains i) = true := by simp only [Bool.and_eq_true]; exact hc.1
    rcases h with ⟨hg, v, hs, h⟩ | ⟨hg, h⟩
    · exact a_take i ho hc' hd hg hs (ap_ok p fuel _ _ _ hc.2 h)
    · exact a_skip i ho hc' hd hg (ap_ok p fuel _ _ _ hc.2 h)
  | .one i p, 0, listed, F, H, hc, h => by simp [planOk] at hc
  | .one i p, fuel + 1, listed, F, H, hc, h => by
    simp only [planOk, Bool.and_eq_true, beq_iff_eq] at hc
    obtain ⟨o, ho, h⟩ := h
    exact a_one i hc.1 ho (AOps_mono h fun F' H' h' => ap_ok p fuel _ _ _ hc.2 h')
  | .two i j p q, 0, listed, F, H, hc, h => by simp [planOk] at hc
  | .two i j p q, fuel + 1, listed, F, H, hc, h => by
    simp only [planOk, Bool.and_eq_true, beq_iff_eq] at hc
    obtain ⟨⟨o, ho, h1⟩, ⟨o2, ho2, h2⟩⟩ := h
    exact a_two i j hc.1 ho ho2 (AOps_mono h1 fun F' H' h' => ap_ok p fuel _ _ _ hc.2.1 h') (AOps_mono h2 fun F' H' h' => ap_ok q fuel _ _ _ hc.2.2 h')
  | .three i j k p q r, 0, listed, F, H, hc, h => by simp [planOk] at hc
  | .three i j k p q r, fuel + 1, listed, F, H, hc, h => by
    simp only [planOk, Bool.and_eq_true, beq_iff_eq] at hc
    obtain ⟨⟨o, ho, h1⟩, ⟨o2, ho2, h2⟩, ⟨o3, ho3, h3⟩⟩ := h
    refine a_all hc.1 rfl fun x hx => ?_
    have : x = i ∨ x = j ∨ x = k := by simpa using hx
    rcases this with rfl | rfl | rfl
    · exact ⟨o, ho, AOps_mono h1 fun F' H' h' => ap_ok p fuel _ _ _ hc.2.1 h'⟩
    · exact ⟨o2, ho2, AOps_mono h2 fun F' H' h' => ap_ok q fuel _ _ _ hc.2.2.1 h'⟩
    · exact ⟨o3, ho3, AOps_mono h3 fun F' H' h' => ap_ok r fuel _ _ _ hc.2.2.2 h'⟩

theorem aw_plan {id : Nat} {l : List Oper} {Q : AQ} (hm : P.follows .mixedOrders = true) (p : Plan) (hc : planOk l.toArray l.length (Array.replicate l.length false) p = true) (h : AP P n l.toArray p F H (fun F' H' => Q .normal F' H')) : AW P n (.region id l.toArray true) F H Q :=
  aw_draw hm (ap_ok p _ _ _ _ hc h)

theorem AP_sub : ∀ (p : Plan) {F F' : Fr} {H : AHeap}, AP P n ops p F H K → F.sub F' → AP P n ops p F' H K
  | .done, F, F', H, ⟨F0, hs, h⟩, hs' => ⟨F0, sub_trans hs hs', h⟩
  | .take i p, F, F', H, ⟨F0, hs, h⟩, hs' => ⟨F0, sub_trans hs hs', h⟩
  | .one i p, F, F', H, ⟨o, ho, h⟩, hs => ⟨o, ho, AOps_sub h hs (AHeap.sub_refl _)⟩
  | .two i j p q, F, F', H, ⟨⟨o, ho, h⟩, ⟨o2, ho2, h2⟩⟩, hs => ⟨⟨o, ho, AOps_sub h hs (AHeap.sub_refl _)⟩, ⟨o2, ho2, AOps_sub h2 hs (AHeap.sub_refl _)⟩⟩
  | .three i j k p q r, F, F', H, ⟨⟨o, ho, h⟩, ⟨o2, ho2, h2⟩, ⟨o3, ho3, h3⟩⟩, hs => ⟨⟨o, ho, AOps_sub h hs (AHeap.sub_refl _)⟩, ⟨o2, ho2, AOps_sub h2 hs (AHeap.sub_refl _)⟩, ⟨o3, ho3, AOps_sub h3 hs (AHeap.sub_refl _)⟩⟩
end

section
variable {n : Nat} {ops : Array Oper} {F : Fr} {H : AHeap} {K : APost} {i : Nat} {p : Plan} {dst : Option Tmp} {op : Op} {ty : TypeId} {pos : String} {af : Array Edge} {gd : Option (Nat × Bool)}

theorem d_stab {v : AVal} (ho : ops[i]? = some ⟨dst, op, ty, pos, af, gd⟩) (hg : gval ops F gd = some true) (hd : dstOk n dst = true) (hs : Stab Try.prog n ⟨dst, op, ty, pos, af, none⟩ F H v) (h : AP Try.prog n ops p (F.put dst v) H K) : AP Try.prog n ops (.take i p) F H K :=
  ⟨F, Fr.sub_refl _, _, ho, hd, .inl ⟨hg, v, hs, h⟩⟩
theorem d1 {v : AVal} (ho : ops[i]? = some ⟨dst, op, ty, pos, af, gd⟩) (hg : gval ops F gd = some true) (hd : dstOk n dst = true) (hv : pev ttab F op = some v) (h : AP Try.prog n ops p (F.put dst v) H K) : AP Try.prog n ops (.take i p) F H K :=
  d_stab ho hg hd (pev_ok tk hv).stab h
theorem d2 (ho : ops[i]? = some ⟨dst, op, ty, pos, af, gd⟩) (hg : gval ops F gd = some false) (hd : dstOk n dst = true) (h : AP Try.prog n ops p (F.put dst (.tup [])) H K) : AP Try.prog n ops (.take i p) F H K := ⟨F, Fr.sub_refl _, _, ho, hd, .inr ⟨hg, h⟩⟩
theorem d3 (h : K F H) : AP Try.prog n ops .done F H K := ⟨F, Fr.sub_refl _, h⟩
theorem d4 {o : Oper} (ho : ops[i]? = some o) (h : AOps Try.prog n ops [o] F H (fun F' H' => AP Try.prog n ops p F' H' K)) : AP Try.prog n ops (.one i p) F H K := ⟨o, ho, h⟩
theorem d_ro {t : TypeId} {x : Operand} {b off k : Nat} {cs : List AVal} {v : AVal} (ho : ops[i]? = some ⟨dst, .load t x, ty, pos, af, gd⟩) (hg : gval ops F gd = some true) (hd : dstOk n dst = true) (hx : opd F x = some (.ptr b off)) (hH : H b = some (.ro cs)) (ht : find ttab.size t = some (k, false)) (hv : cs[off]? = some v)
    (h : AP Try.prog n ops p (F.put dst v) H K) : AP Try.prog n ops (.take i p) F H K := d_stab ho hg hd (stab_ro_sc tk hx hH ht hv) h
theorem d_roa {t : TypeId} {x : Operand} {b off k : Nat} {cs ds : List AVal} (ho : ops[i]? = some ⟨dst, .load t x, ty, pos, af, gd⟩) (hg : gval ops F gd = some true) (hd : dstOk n dst = true) (hx : opd F x = some (.ptr b off)) (hH : H b = some (.ro cs)) (ht : find ttab.size t = some (k, true)) (hl : off + k ≤ cs.length) (hds : (cs.drop off).take k = ds)
    (h : AP Try.prog n ops p (F.put dst (.agg ds)) H K) : AP Try.prog n ops (.take i p) F H K := d_stab ho hg hd (stab_ro_agg tk hx hH ht hl hds) h
theorem d_ept {t : TypeId} {x : Operand} {c : List AVal} {off k : Nat} {v : AVal} (ho : ops[i]? = some ⟨dst, .load t x, ty, pos, af, gd⟩) (hg : gval ops F gd = some true) (hd : dstOk n dst = true) (hx : opd F x = some (.ept c off)) (ht : find ttab.size t = some (k, false)) (hv : c[off]? = some v)
    (h : AP Try.prog n ops p (F.put dst v) H K) : AP Try.prog n ops (.take i p) F H K := d_stab ho hg hd (stab_ept_sc tk hx ht hv) h
theorem d_epta {t : TypeId} {x : Operand} {c ds : List AVal} {off k : Nat} (ho : ops[i]? = some ⟨dst, .load t x, ty, pos, af, gd⟩) (hg : gval ops F gd = some true) (hd : dstOk n dst = true) (hx : opd F x = some (.ept c off)) (ht : find ttab.size t = some (k, true)) (hl : off + k ≤ c.length) (hds : (c.drop off).take k = ds)
    (h : AP Try.prog n ops p (F.put dst (.agg ds)) H K) : AP Try.prog n ops (.take i p) F H K := d_stab ho hg hd (stab_ept_agg tk hx ht hl hds) h
theorem d_add {t yt : TypeId} {x y : Operand} {u v : Int} (ho : ops[i]? = some ⟨dst, .binOp .add t x y yt, ty, pos, af, gd⟩) (hg : gval ops F gd = some true) (hd : dstOk n dst = true) (hx : opd F x = some (.sc (.int .i64 u))) (hy : opd F y = some (.sc (.int .i64 v))) (hb : -9223372036854775808 ≤ u + v ∧ u + v ≤ 9223372036854775807)
    (h : AP Try.prog n ops p (F.put dst (.sc (.int .i64 (u + v)))) H K) : AP Try.prog n ops (.take i p) F H K := d_stab ho hg hd (pures_arith hx hy (by simp only [wrap_id hb])).stab h
theorem d_sub {t yt : TypeId} {x y : Operand} {u v : Int} (ho : ops[i]? = some ⟨dst, .binOp .sub t x y yt, ty, pos, af, gd⟩) (hg : gval ops F gd = some true) (hd : dstOk n dst = true) (hx : opd F x = some (.sc (.int .i64 u))) (hy : opd F y = some (.sc (.int .i64 v))) (hb : -9223372036854775808 ≤ u - v ∧ u - v ≤ 9223372036854775807)
    (h : AP Try.prog n ops p (F.put dst (.sc (.int .i64 (u - v)))) H K) : AP Try.prog n ops (.take i p) F H K := d_stab ho hg hd (pures_arith hx hy (by simp only [wrap_id hb])).stab h
theorem d_index {t : TypeId} {x y : Operand} {xs : List (List AVal)} {o : Own} {k : IntKind} {q : Int} {e es eb : Nat} {c : List AVal} (ho : ops[i]? = some ⟨dst, .indexAddr t x y, ty, pos, af, gd⟩) (hg : gval ops F gd = some true) (hd : dstOk n dst = true) (hx : opd F x = some (.sl xs o)) (hi : opd F y = some (.sc (.int k q)))
    (ht : find ttab.slc t = some (e, es, eb)) (h0 : 0 ≤ q) (hc : xs[q.toNat]? = some c) (hl : c.length = es) (h : AP Try.prog n ops p (F.put dst (.ept c 0)) H K) : AP Try.prog n ops (.take i p) F H K := d_stab ho hg hd (pures_index_sl tk hx hi ht h0 hc hl).stab h
theorem d_indexa {t : TypeId} {x y : Operand} {b off : Nat} {k : IntKind} {q : Int} {m e es : Nat} {ag : Bool} (ho : ops[i]? = some ⟨dst, .indexAddr t x y, ty, pos, af, gd⟩) (hg : gval ops F gd = some true) (hd : dstOk n dst = true) (hx : opd F x = some (.ptr b off)) (hi : opd F y = some (.sc (.int k q)))
    (ht : find ttab.arr t = some (m, e)) (hs : find ttab.size e = some (es, ag)) (h0 : 0 ≤ q) (h1 : q < m) (h : AP Try.prog n ops p (F.put dst (.ptr b (off + q.toNat * es))) H K) : AP Try.prog n ops (.take i p) F H K := d_stab ho hg hd (pures_index_arr tk hx hi ht hs h0 h1).stab h
theorem d_indexs {t : TypeId} {x y : Operand} {s : ByteArray} {k : IntKind} {q : Int} {u : Unit} {c : UInt8} (ho : ops[i]? = some ⟨dst, .index t x y, ty, pos, af, gd⟩) (hg : gval ops F gd = some true) (hd : dstOk n dst = true) (hx : opd F x = some (.sc (.string s))) (hi : opd F y = some (.sc (.int k q))) (ht : find ttab.strs t = some u)
    (h0 : 0 ≤ q) (hc : s.data.toList[q.toNat]? = some c) (h : AP Try.prog n ops p (F.put dst (.sc (.int .u8 c.toNat))) H K) : AP Try.prog n ops (.take i p) F H K := d_stab ho hg hd (pures_index_str tk hx hi ht h0 hc).stab h
/-- A guard that is not known: both ways. -/
theorem d_split {j : Nat} {want b : Bool} {d : Nat} (ho : ops[i]? = some ⟨dst, op, ty, pos, af, some (j, want)⟩) (hj : (ops[j]?).bind (·.dst) = some d) (hx : F.get d = some (.sc (.bool b)))
    (ht : b = true → AP Try.prog n ops (.take i p) ((d, .sc (.bool true)) :: F) H K) (hf : b = false → AP Try.prog n ops (.take i p) ((d, .sc (.bool false)) :: F) H K) : AP Try.prog n ops (.take i p) F H K := by
  cases b with
  | true => exact AP_sub _ (ht rfl) (Fr.sub_cons hx (Fr.sub_refl _))
  | false => exact AP_sub _ (hf rfl) (Fr.sub_cons hx (Fr.sub_refl _))
end
theorem prot_get {H : AHeap} {bs : List Nat} {b : Nat} {cs : List AVal} (hm : b ∈ bs) (h : Rd H b cs) : H.prot bs b = some (.ro cs) := by
  rcases h with h | h <;> simp [AHeap.prot, hm, h, roOf]
theorem prot_other {H : AHeap} {bs : List Nat} {b : Nat} (hm : b ∉ bs) : H.prot bs b = H b := by simp [AHeap.prot, hm]
theorem back_prot (H : AHeap) (bs : List Nat) : (H.prot bs).back H bs = H := by
  funext x
  unfold AHeap.back AHeap.prot
  split
  · rfl
  · first | rfl | simp
theorem prot_done {H : AHeap} {bs : List Nat} {Q : AHeap → Prop} (h : Q H) : (∀ b, b ∈ bs → H.prot bs b = H.prot bs b) ∧ Q ((H.prot bs).back H bs) := ⟨fun _ _ => rfl, by rw [back_prot]; exact h⟩
theorem allc0 (H : AHeap) : allCells H [] := fun b h => by cases h
theorem allc {H : AHeap} {b : Nat} {bs : List Nat} {cs : List AVal} (h : Rd H b cs) (k : allCells H bs) : allCells H (b :: bs) := fun x hx => by
  rcases List.mem_cons.1 hx with rfl | hx
  · exact ⟨cs, h⟩
  · exact k x hx
end Abs
end Go.Proofs.Ytbldnaflffmddaa

set_option linter.unusedVariables false
namespace Go.Proofs.Ytbldnaflffmddaa
namespace Abs

/-! ### make([]T, l, c) -/
def rep (n : Nat) (cs : List AVal) : List AVal := (List.replicate n cs).flatten
theorem rep_uni (n : Nat) (cs : List AVal) : Uni cs.length (List.replicate n cs) := fun x hx => by rw [List.eq_of_mem_replicate hx]
theorem rep_len (n : Nat) (cs : List AVal) : (rep n cs).length = n * cs.length := by
  unfold rep; rw [(rep_uni n cs).len, List.length_replicate]
theorem rep_get (n : Nat) (cs : List AVal) (i : Nat) (hi : i < n * cs.length) : (rep n cs)[i]? = cs[i % cs.length]? := by
  have hp : 0 < cs.length := by
    rcases Nat.eq_zero_or_pos cs.length with h | h
    · rw [h] at hi; omega
    · exact h
  have e : i = (i / cs.length) * cs.length + i % cs.length := by rw [Nat.mul_comm]; exact (Nat.div_add_mod i cs.length).symm
  have hlt : i / cs.length < n := Nat.div_lt_of_lt_mul (by rw [Nat.mul_comm]; exact hi)
  unfold rep
  conv => lhs; rw [e]
  rw [(rep_uni n cs).flat_get _ _ (Nat.mod_lt _ hp), List.getElem?_replicate, if_pos hlt]
  rfl
section
variable {P : Program} {tt : TT} {n : Nat} {ops : Array Oper} {rest : List Oper} {F : Fr} {H : AHeap} {dst : Option Tmp} {ty : TypeId} {pos : String} {af : Array Edge} {K : APost}
end
end Abs
end Go.Proofs.Ytbldnaflffmddaa

set_option linter.unusedVariables false
namespace Go.Proofs.Ytbldnaflffmddaa
namespace Abs

/-! ### for i, c := range s -/
def notCells : Obj → Bool
  | .cells .. => false
  | _ => true
def World.withObj (w : World) (b : Nat) (o : Obj) : World := { w with heap := w.heap.setIfInBounds b o }
theorem withObj_other (w : World) (b k : Nat) (o : Obj) (h : k ≠ b) : (World.withObj w b o).heap[k]? = w.heap[k]? := by
  simp only [World.withObj]; rw [Array.getElem?_setIfInBounds_ne (Ne.symm h)]
theorem withObj_same (w : World) (b : Nat) (o o' : Obj) (h : w.heap[b]? = some o') : (World.withObj w b o).heap[b]? = some o := by
  obtain ⟨hb, _⟩ := Array.getElem?_eq_some_iff.1 h
  simp only [World.withObj]; rw [Array.getElem?_setIfInBounds_self_of_lt hb]
theorem ext_withObj {g : Ghost} {w : World} {b : Nat} {o o' : Obj} (hb : w.heap[b]? = some o) (ho : notCells o = true) (ho' : notCells o' = true) (hbase : g.base ≤ b) (hpr : ¬ g.pr b) : Ext g w g (World.withObj w b o') := by
  have hs := withObj_same w b o' o hb
  refine ⟨rfl, rfl, rfl, rfl, by simp [World.withObj], fun k hk => withObj_other w b k o' (by omega), fun _ => Nat.le_refl _, fun k off _ => ?_, fun k hk => ?_, rfl, fun k hk => withObj_other w b k o' (fun e => hpr (e ▸ hk))⟩
  · by_cases e : k = b
    · subst e
      unfold World.cell?
      simp only [hs, hb]
      cases o <;> cases o' <;> simp_all [notCells]
    · unfold World.cell?
      simp only [withObj_other w b k o' e]
  · by_cases e : k = b
    · subst e
      unfold World.shape?
      simp only [hs, hb]
      cases o <;> cases o' <;> simp_all [notCells]
    · unfold World.shape?
      simp only [withObj_other w b k o' e]
theorem inv_withObj {g : Ghost} {w : World} {H : AHeap} (hi : Inv g w H) {b : Nat} {p p' : HObj} (hH : H b = some p) {o o' : Obj} (hb : w.heap[b]? = some o) (ho : notCells o = true) (ho' : notCells o' = true) (hpr : ¬ g.pr b)
    (hok : Ext g w g (World.withObj w b o') → ObjOk g (World.withObj w b o') b p') : Ext g w g (World.withObj w b o') ∧ Inv g (World.withObj w b o') (H.put b p') := by
  have hbase := (hi.obj b p hH).1
  have he := ext_withObj hb ho ho' hbase hpr
  refine ⟨he, ⟨by simpa [World.withObj] using hi.base_le, fun k hk => hi.fresh k (by simpa [World.withObj] using hk), fun k q hk => ?_⟩⟩
  by_cases e : k = b
  · subst e
    rw [put_same] at hk
    cases hk
    exact ⟨hbase, hok he⟩
  · rw [put_ne e] at hk
    exact ⟨(hi.obj k q hk).1, (hi.obj k q hk).2.at he (withObj_other w b k o' e)⟩
theorem inv_allocObj {g : Ghost} {w : World} {H : AHeap} (hi : Inv g w H) {o : Obj} {p : HObj} (hok : Ext g w g (w.alloc o) → ObjOk g (w.alloc o) w.heap.size p) : Ext g w g (w.alloc o) ∧ Inv g (w.alloc o) (H.put w.heap.size p) := by
  have he := ext_alloc hi.base_le (hi.fresh _ (Nat.le_refl _)).1 (hi.fresh _ (Nat.le_refl _)).2 o
  refine ⟨he, ⟨by have := hi.base_le; simp; omega, fun k hk => hi.fresh k (by simp at hk; omega), fun k q hk => ?_⟩⟩
  by_cases e : k = w.heap.size
  · subst e
    rw [put_same] at hk
    cases hk
    exact ⟨hi.base_le, hok he⟩
  · rw [put_ne e] at hk
    exact ⟨(hi.obj k q hk).1, (hi.obj k q hk).2.alloc he⟩
section
variable {P : Program} {tt : TT} {n : Nat} {ops : Array Oper} {rest : List Oper} {F : Fr} {H : AHeap} {dst : Option Tmp} {ty : TypeId} {pos : String} {af : Array Edge} {K : APost}
theorem VR.ptr_eq {g : Ghost} {w : World} {b off : Nat} {cv : Value} (h : VR g w (.ptr b off) cv) : cv = .pointer (some ⟨b, off, none⟩) := by cases h; rfl
theorem s_range (tk : TTok tt P) {t : TypeId} {x : Operand} {s : ByteArray} {u : Unit} (hd : dstOk n dst = true) (hx : opd F x = some (.sc (.string s))) (ht : find tt.strs t = some u)
    (hK : ∀ b, H b = none → AOps P n ops rest (F.put dst (.ptr b 0)) (H.put b (.iter s 0)) K) : AOps P n ops (⟨dst, .range t x, ty, pos, af, none⟩ :: rest) F H K :=
  AOps_cons (op_of_value hd fun g a w hi hf => by
    have ex := (hf.opd hx).eq_sc
    have hu := tk.strs ht
    obtain ⟨he, hi'⟩ := inv_allocObj hi (o := .stringIter s 0) (p := .iter s 0) (fun _ => ⟨hi.fresh _ (Nat.le_refl _), heap_alloc_new w _⟩)
    refine ⟨.pointer (some ⟨w.heap.size, 0, none⟩), _, g, .ptr w.heap.size 0, _, ?_, he, hi', .ptr, hK _ hi.size_fresh⟩
    simp [execOp, Instr.range, ex, run_underlying hu])
theorem s_next {x : Operand} {b p : Nat} {s : ByteArray} {m : Bool} (hd : dstOk n dst = true) (hx : opd F x = some (.ptr b 0)) (hH : H b = some (.iter s p)) (hp : p < s.size)
    (hK : AOps P n ops rest (F.put dst (.tup [.sc (.bool true), .sc (.int .i64 p), .sc (.int .i32 (Utf8.decode s p).1)])) (H.put b (.iter s (p + (Utf8.decode s p).2))) K) : AOps P n ops (⟨dst, .next x true, ty, pos, af, none⟩ :: rest) F H K :=
  AOps_cons (op_of_value hd fun g a w hi hf => by
    have ex := VR.ptr_eq (hf.opd hx)
    obtain ⟨hbase, ⟨hlim, hpr⟩, hw⟩ := hi.obj b _ hH
    obtain ⟨he, hi'⟩ := inv_withObj hi hH hw (o' := .stringIter s (p + (Utf8.decode s p).2)) (p' := .iter s (p + (Utf8.decode s p).2)) rfl rfl hpr (fun _ => ⟨⟨hlim, hpr⟩, withObj_same w b _ _ hw⟩)
    refine ⟨.tuple #[.bool true, .int .i64 p, .int .i32 (Utf8.decode s p).1], _, g, .tup [.sc (.bool true), .sc (.int .i64 p), .sc (.int .i32 (Utf8.decode s p).1)], _, ?_, he, hi', ?_, hK⟩
    · have hn : (Instr.next (.pointer (some ⟨b, 0, none⟩)) true ty).run P w = .ok (.tuple #[.bool true, .int .i64 p, .int .i32 (Utf8.decode s p).1]) (World.withObj w b (.stringIter s (p + (Utf8.decode s p).2))) := by
        simp only [Instr.next, getObj, setObj, Sem.run_bind, Sem.run, hw, Result.andThen, hp, if_true]
        simp [goInt, World.withObj]
      simp only [execOp, ex, Sem.run_bind, hn, Result.andThen_ok, Sem.run_pure]
    · exact .tup rfl (fun j h h' => match j with | 0 => .sc trivial | 1 => .sc trivial | 2 => .sc trivial)
    )
theorem s_next_end {x : Operand} {b p : Nat} {s : ByteArray} (hd : dstOk n dst = true) (hx : opd F x = some (.ptr b 0)) (hH : H b = some (.iter s p)) (hp : s.size ≤ p)
    (hK : AOps P n ops rest (F.put dst (.tup [.sc (.bool false)])) H K) : AOps P n ops (⟨dst, .next x true, ty, pos, af, none⟩ :: rest) F H K :=
  AOps_cons (op_of_value hd fun g a w hi hf => by
    have ex := VR.ptr_eq (hf.opd hx)
    obtain ⟨hbase, ⟨hlim, hpr⟩, hw⟩ := hi.obj b _ hH
    have hp' : ¬ p < s.size := by omega
    refine ⟨.tuple #[.bool false], w, g, .tup [.sc (.bool false)], H, ?_, Ext.refl _ _, hi, .tup rfl (fun j h h' => match j with | 0 => .sc trivial), hK⟩
    have hn : (Instr.next (.pointer (some ⟨b, 0, none⟩)) true ty).run P w = .ok (.tuple #[.bool false]) w := by
      simp only [Instr.next, getObj, Sem.run_bind, Sem.run, hw, Result.andThen, hp', if_false]
      simp
    simp only [execOp, ex, Sem.run_bind, hn, Result.andThen_ok, Sem.run_pure])
end
end Abs
end Go.Proofs.Ytbldnaflffmddaa

set_option linter.unusedVariables false
namespace Go.Proofs.Ytbldnaflffmddaa
namespace Abs

/-! ### append that begins a row of the call's own, which is written before anybody else sees it; and a row that is closed -/
theorem rep_zero {g : Ghost} {w : World} {z : Array Value} {zs : List Value} {zc : List AVal} (hz : z.toList = zs) (hc : absL zs = some zc) (m : Nat) : VRs g w (rep m zc) (Builtin.zeroCells z m).toList := by
  have hl := (absL_ok (g := g) (w := w) hc).1
  have hzl : zc.length = z.size := by rw [hl, ← hz, Array.length_toList (xs := z)]
  refine ⟨by rw [rep_len, Array.length_toList (xs := Builtin.zeroCells z m), hzl]; simp [Builtin.zeroCells], fun j h h' => ?_⟩
  have hj : j < m * zc.length := by rw [← rep_len]; exact h
  have hpos : 0 < zc.length := by
    rcases Nat.eq_zero_or_pos zc.length with e | e
    · rw [e] at hj; omega
    · exact e
  have hmod : j % zc.length < zc.length := Nat.mod_lt _ hpos
  have e1 : (rep m zc)[j] = zc[j % zc.length] := by
    have := rep_get m zc j hj
    rw [List.getElem?_eq_getElem h, List.getElem?_eq_getElem hmod] at this
    exact Option.some.inj this
  have hzz : j % z.size < z.size := by rw [← hzl]; exact hmod
  have e2 : (Builtin.zeroCells z m).toList[j] = z[j % z.size] := by
    simp [Builtin.zeroCells, hzz]
  rw [e1, e2]
  have hk := (absL_ok (g := g) (w := w) hc).2 (j % zc.length) hmod (by rw [← hz, Array.length_toList (xs := z), ← hzl]; exact hmod)
  subst hz
  simp only [Array.getElem_toList, hzl] at hk ⊢
  exact hk
section
variable {P : Program} {tt : TT} {n : Nat} {ops : Array Oper} {rest : List Oper} {F : Fr} {H : AHeap} {dst : Option Tmp} {ty : TypeId} {pos : String} {af : Array Edge} {K : APost}
theorem s_append_row (tk : TTok tt P) (hd : dstOk n dst = true) {t t2 : TypeId} {x y : Operand} {ys : List (List AVal)} {o2 : Own} {e es eb : Nat} {e2 : Nat × Nat × Nat} {zs : List Value} {zc : List AVal} (hx : opd F x = some (.sl [] .full)) (hy : opd F y = some (.sl ys o2))
    (ht : find tt.slc t = some (e, es, eb)) (ht2 : find tt.slc t2 = some e2) (hz : find tt.zero e = some zs) (hc : absL zs = some zc) (huy : Uni es ys) (hne : 0 < ys.length) (hlen : ys.length * eb ≤ 140737488355328)
    (hK : ∀ b cap, H b = none → ys.length ≤ cap → AOps P n ops rest (F.put dst (.row b 0 ys.length cap)) (H.put b (.cells (ys.flatten ++ rep (cap - ys.length) zc))) K) :
    AOps P n ops (⟨dst, .call { callee := .builtin .append, args := #[x, y], argTypes := #[t, t2] }, ty, pos, af, none⟩ :: rest) F H K :=
  AOps_cons (op_of_value hd fun g a w hi hf => by
    obtain ⟨hu, inf, z, hinf, hsz, hby, hes0, heb0, hiz, hzs⟩ := tk.slc ht
    obtain ⟨hu2, _⟩ := tk.slc (e := e2.1) (es := e2.2.1) (eb := e2.2.2) ht2
    obtain ⟨inf', z', hinf', hiz', hzl⟩ := tk.zero hz
    have : inf' = inf := by rw [hinf] at hinf'; cases hinf'; rfl
    subst this
    have : z' = z := by rw [hiz] at hiz'; cases hiz'; rfl
    subst this
    have hvx := hf.opd hx
    have hvy := hf.opd hy
    obtain ⟨ay, capy, ey, hcy, _, ds, hds, hdl, hdc⟩ := hvy.sl_cells hes0 huy
    have hux0 : Uni es ([] : List (List AVal)) := fun x h => by cases h
    obtain ⟨ax, capx, ex, hcx, _, cs, hcs, hcl, hcc⟩ := hvx.sl_cells hes0 hux0
    have hcap0 : capx = 0 := by
      rcases hcc with ⟨_, _, h, _⟩ | ⟨_, _, _, _, _, _, h⟩
      · exact h
      · exact h rfl
    subst hcap0
    have hcs0 : cs = [] := by simpa using hcl
    subst hcs0
    have hfx : (Builtin.firstCells es 0 (.slice ax 0 0)).run P w.drew = .ok #[] w.drew := by
      have := run_firstCells (P := P) (w := w.drew) (es := es) (m := 0) (a := ax) (k := 0) (cap := 0) (cs := []) (by simp) (.inl rfl)
      simpa using this
    have hfyd : (Builtin.firstCells es ys.length (.slice ay ys.length capy)).run P w.drew = .ok ds.toArray w.drew := run_firstCells hdl (by
      rcases hdc with ⟨h1, h2, _⟩ | ⟨b, o, h1, h2, _⟩
      · exact .inl h2
      · exact .inr ⟨b, o, h1, h2⟩)
    have hlen' : ys.length ≤ 140737488355328 := Nat.le_trans (Nat.le_mul_of_pos_right _ heb0) hlen
    have hmax : IntKind.i64.max = 9223372036854775807 := by decide
    have hnext : Builtin.nextslicecap ys.length 0 * eb ≤ 2 ^ 48 := by
      have h1 : Builtin.nextslicecap ys.length 0 ≤ 2 * ys.length := nextslicecap_le ys.length 0 (by omega)
      have h2 := Nat.mul_le_mul_right eb h1
      rw [Nat.mul_assoc] at h2
      omega
    have hq : (Question.appendCap ys.length 0 e).forced = false := rfl
    let newCap := (Question.appendCap ys.length 0 e).cut (w.tape w.drawn (.appendCap ys.length 0 e))
    have hnc : ys.length ≤ newCap := by simp only [newCap, Question.cut]; omega
    have hrun : (execOp a.eval ⟨dst, .call { callee := .builtin .append, args := #[x, y], argTypes := #[t, t2] }, ty, pos, af, none⟩).run P w =
        .ok (.value (.slice (some ⟨w.heap.size, 0, none⟩) ys.length newCap)) (w.drew.alloc (.cells (ds.toArray ++ Builtin.zeroCells z'.cells (newCap - ys.length)) e)) := by
      have hc1 : ¬ (9223372036854775807 < (ys.length : Int)) := by omega
      have hc2 : ¬ (281474976710656 < Builtin.nextslicecap ys.length 0 * eb) := by omega
      have hc3 : ¬ (ys.length = 0) := by omega
      have hc4 : ys ≠ [] := fun e => hc3 (by rw [e]; rfl)
      simp only [List.length_nil] at ex
      simp [execOp, resolve, invoke, builtin, Builtin.append_, ex, ey, run_underlying hu, run_underlying hu2, run_sizeOf' hinf, hsz, Builtin.lenOf, hc4, run_typeInfo _ hinf, hby, hc1, hc2, hq, hfx, hfyd, run_zeroValue' hinf hiz, newRow, hmax]
      exact ⟨rfl, by simp [newCap]⟩
    have hi' := hi.drew
    have hvr : VRs g w.drew (ys.flatten ++ rep (newCap - ys.length) zc) (ds ++ (Builtin.zeroCells z'.cells (newCap - ys.length)).toList) := (hds.mono (ext_drew g w)).append (rep_zero hzl hc _)
    obtain ⟨hext, hinv⟩ := inv_alloc hi' e hvr
    have harr : (ds ++ (Builtin.zeroCells z'.cells (newCap - ys.length)).toList).toArray = ds.toArray ++ Builtin.zeroCells z'.cells (newCap - ys.length) := by simp
    rw [harr] at hext hinv
    exact ⟨.slice (some ⟨w.heap.size, 0, none⟩) ys.length newCap, _, g, .row w.heap.size 0 ys.length newCap, _, hrun, (ext_drew g w).trans hext, hinv, .row, hK _ _ hi.size_fresh hnc⟩)

/-- A row of the call's own that is not written any more. -/
theorem aops_close {l : List Oper} {d b off m cap es : Nat} {cs : List AVal} {rows : List (List AVal)} (hd : F.get d = some (.row b off m cap)) (hH : H b = some (.cells cs)) (hes : 0 < es) (hu : Uni es rows) (hl : rows.length = m)
    (hcs : (cs.drop off).take (m * es) = rows.flatten) (hmx : m ≤ 140737488355328) (hmc : m ≤ cap) (hcap : off + cap * es ≤ cs.length) (h : AOps P n ops l ((d, .sl rows .no) :: F) (H.del b) K) : AOps P n ops l F H K := fun g a w Q hi hf hk => by
  obtain ⟨hbase, ⟨hlim, hpr⟩, c, el, hw, hcl, hcv⟩ := hi.obj b _ hH
  have hdel : (H.del b) b = none := by simp [AHeap.del]
  have hlt : b < w.heap.size := (Array.getElem?_eq_some_iff.1 hw).1
  have hi1 := inv_seal (e := off + m * es) (hi.sub (AHeap.del_sub (AHeap.sub_refl H) b)) (by omega) hlt hdel
  have hext : Ext g w (g.fix b (off + m * es)) w := ext_seal (by omega)
  have hmce : m * es ≤ cap * es := Nat.mul_le_mul_right _ hmc
  have hvs : VRs g w rows.flatten ((c.toList.drop off).take (m * es)) := by
    rw [← hcs]
    have h0 : VRs g w cs c.toList := ⟨by rw [hcl, Array.length_toList (xs := c)], fun j h1 h2 => by
      have := hcv j h1 (by rw [← hcl]; exact h1)
      simpa using this⟩
    exact (h0.drop off).take (m * es)
  have hvr : VR (g.fix b (off + m * es)) w (.sl rows .no) (.slice (some ⟨b, off, none⟩) rows.length cap) := by
    refine VR.sl_mk hes hu (hvs.mono hext) (fun j v hv => ?_) (by rw [hl]; exact imm_seal _ _ _) (by omega) (by rw [hl]; simp only [maxLen]; omega) ⟨el, c.size, by unfold World.shape?; rw [hw], by omega⟩ trivial
    rw [cell_of_row w b _ c el (0, 0) hw]
    rw [List.getElem?_take] at hv
    split at hv
    · rw [List.getElem?_drop, Array.getElem?_toList] at hv; exact hv
    · cases hv
  rw [hl] at hvr
  have hf1 := hf.mono hext
  refine h (g.fix b (off + m * es)) a w Q hi1 ⟨hf1.size, hf1.defers, fun t v ht => ?_⟩ (fun g' a' w' F' H' he hi' hf' hK => hk g' a' w' F' H' (hext.trans he) hi' hf' hK)
  simp only [Fr.get] at ht
  cases hx : Nat.beq d t with
  | true =>
    rw [hx] at ht
    cases ht
    obtain ⟨cv, h1, h2⟩ := hf.slot d _ hd
    rw [← Nat.eq_of_beq_eq_true hx]
    refine ⟨cv, h1, ?_⟩
    cases h2
    exact hvr
  | false => rw [hx] at ht; exact hf1.slot t v ht
end
end Abs
end Go.Proofs.Ytbldnaflffmddaa

set_option linter.unusedVariables false
namespace Go.Proofs.Ytbldnaflffmddaa
namespace Abs

/-! ### structs of plain fields, compared -/
def eqCells (tt : TT) : List (Nat × Nat) → List AVal → List AVal → Option Bool
  | [], _, _ => some true
  | (t, off) :: fs, xs, ys =>
    match xs[off]?, ys[off]?, eqCells tt fs xs ys with
    | some (.sc (.int k a)), some (.sc (.int k' b)), some r => if k = k' ∧ find tt.ints t = some k ∧ find tt.size t = some (1, false) then some (decide (a = b) && r) else none
    | some (.sc (.string a)), some (.sc (.string b)), some r => if find tt.strs t = some () ∧ find tt.size t = some (1, false) then some (decide (a = b) && r) else none
    | some (.sc (.bool a)), some (.sc (.bool b)), some r => if find tt.bools t = some () ∧ find tt.size t = some (1, false) then some (decide (a = b) && r) else none
    | _, _, _ => none
theorem run_part_sc {P : Program} {tt : TT} (tk : TTok tt P) {t : Nat} {k : Nat} (ht : find tt.size t = some (k, false)) {cs : Array Value} {off : Nat} {v : Value} (hv : cs[off]? = some v) (w : World) : (part t cs off).run P w = .ok v w := by
  obtain ⟨i, d, _, _, hd, ha⟩ := tk.size ht
  unfold part
  rw [Sem.run_bind, run_isAgg' hd w, ha]
  simp [hv]
theorem vrs_sc {g : Ghost} {w : World} {xs : List AVal} {cs : Array Value} (h : VRs g w xs cs.toList) {j : Nat} {v : Value} (hv : xs[j]? = some (.sc v)) : cs[j]? = some v := by
  obtain ⟨cv, h1, h2⟩ := h.get hv
  have := h2.eq_sc
  subst this
  simpa using h1
theorem eqCells_ok {P : Program} {tt : TT} (tk : TTok tt P) {g : Ghost} {w : World} {xs ys : List AVal} {cx cy : Array Value} (hx : VRs g w xs cx.toList) (hy : VRs g w ys cy.toList) (d : Nat) (w' : World) :
    ∀ {fs : List Field} {r : Bool}, (∀ f ∈ fs, f.name ≠ "_") → eqCells tt (fs.map fun f => (f.type, f.offset)) xs ys = some r → (Op.eqFields (d + 1) cx cy fs).run P w' = .ok r w'
  | [], r, _, h => by cases h; simp [Op.eqFields]
  | f :: fs, r, hn, h => by
    have hn1 := hn f List.mem_cons_self
    simp only [List.map_cons, eqCells] at h
    unfold Op.eqFields
    rw [if_pos hn1]
    split at h
    · rename_i k a k' b r' h1 h2 h3
      have ih := eqCells_ok tk hx hy d w' (fun f hf => hn f (List.mem_cons_of_mem _ hf)) h3
      split at h
      · rename_i hc
        obtain ⟨rfl, hc1, hc2⟩ := hc
        cases h
        have p1 := run_part_sc tk hc2 (vrs_sc hx h1) w'
        have p2 := run_part_sc tk hc2 (vrs_sc hy h2) w'
        have p3 := run_equalIn_int (P := P) w' d f.type k k a b (tk.ints hc1)
        simp only [Sem.run_bind, p1, p2, p3, Result.andThen_ok]
        by_cases e : a = b
        · subst e; simp [ih]
        · have : (a == b) = false := by simpa using e
          simp [this, e]
      · cases h
    · rename_i a b r' h1 h2 h3
      have ih := eqCells_ok tk hx hy d w' (fun f hf => hn f (List.mem_cons_of_mem _ hf)) h3
      split at h
      · rename_i hc
        obtain ⟨hc1, hc2⟩ := hc
        cases h
        have p1 := run_part_sc tk hc2 (vrs_sc hx h1) w'
        have p2 := run_part_sc tk hc2 (vrs_sc hy h2) w'
        have p3 := run_equalIn_string (P := P) w' d f.type a b (tk.strs hc1)
        simp only [Sem.run_bind, p1, p2, p3, Result.andThen_ok]
        by_cases e : a = b
        · subst e; simp [ih]
        · have : (a.toList == b.toList) = false := by
            refine beq_eq_false_iff_ne.2 fun h => e ?_
            rw [ByteArray.toList_eq, ByteArray.toList_eq] at h
            obtain ⟨x⟩ := a
            obtain ⟨y⟩ := b
            exact congrArg ByteArray.mk (Array.toList_inj.1 h)
          simp [this, e]
      · cases h
    · rename_i a b r' h1 h2 h3
      have ih := eqCells_ok tk hx hy d w' (fun f hf => hn f (List.mem_cons_of_mem _ hf)) h3
      split at h
      · rename_i hc
        obtain ⟨hc1, hc2⟩ := hc
        cases h
        have p1 := run_part_sc tk hc2 (vrs_sc hx h1) w'
        have p2 := run_part_sc tk hc2 (vrs_sc hy h2) w'
        have p3 := run_equalIn_bool' (P := P) w' d f.type a b (tk.bools hc1)
        simp only [Sem.run_bind, p1, p2, p3, Result.andThen_ok]
        by_cases e : a = b
        · subst e; simp [ih]
        · have : (a == b) = false := by simpa using e
          simp [this, e]
      · cases h
    · cases h
/-- What the program says of a struct type whose values are compared. -/
def eqType (P : Program) (t : TypeId) : Bool := !(P.stoodInHeld t) && !(P.eqGuardType P.depth t) && ((P.fieldsOf t).toList.all fun f => !(f.name == "_"))
section
variable {P : Program} {tt : TT} {n : Nat} {ops : Array Oper} {rest : List Oper} {F : Fr} {H : AHeap} {dst : Option Tmp} {ty : TypeId} {pos : String} {af : Array Edge} {K : APost}
theorem agg_eq {g : Ghost} {w : World} {xs : List AVal} {cv : Value} (h : VR g w (.agg xs) cv) : ∃ cs, cv = .agg cs ∧ VRs g w xs cs.toList := by
  cases h with
  | agg h1 h2 => exact ⟨_, rfl, by simpa using h1, fun j a b => by have := h2 j a (by simpa using b); simpa using this⟩
theorem pures_eqagg (tk : TTok tt P) {t yt : TypeId} {op : BinOp} {x y : Operand} {xs ys : List AVal} {fs : List (Nat × Nat)} {r : Bool} (ho : op = .eql ∨ op = .neq) (hx : opd F x = some (.agg xs)) (hy : opd F y = some (.agg ys)) (ht : find tt.flds t = some fs)
    (he : eqType P t = true) (hr : eqCells tt fs xs ys = some r) : Pures P n ⟨dst, .binOp op t x y yt, ty, pos, af, none⟩ F (.sc (.bool (if op = .eql then r else !r))) := fun g a w hf => by
  obtain ⟨cx, ex, hvx⟩ := agg_eq (hf.opd hx)
  obtain ⟨cy, ey, hvy⟩ := agg_eq (hf.opd hy)
  obtain ⟨fds, hu, hl, _⟩ := tk.flds ht
  simp only [eqType, Bool.and_eq_true, Bool.not_eq_true', List.all_eq_true] at he
  obtain ⟨⟨hs, hg⟩, hnm⟩ := he
  have hfo : P.fieldsOf t = fds := by simp [Program.fieldsOf, hu]
  have hrun : ∀ w', (Op.equalIn 10000 t (.agg cx) (.agg cy)).run P w' = .ok r w' := fun w' => by
    rw [run_equalIn_agg (P := P) w' 9999 t cx cy (by rw [hfo]; exact hu) hs]
    refine eqCells_ok tk hvx hvy 9998 w' (fun f hf => ?_) ?_
    · have := hnm f hf
      simpa using this
    · rw [hfo, hl]; exact hr
  rcases ho with rfl | rfl
  · refine ⟨.bool r, fun w' => ?_, by rw [if_pos rfl]; exact .sc trivial⟩
    have h1 := run_eqGuard_agg (P := P) w' .eql t x y cx cy hg
    have h2 := run_eql_struct (P := P) w' t cx cy
    rw [hrun] at h2
    simp only [execOp, ex, ey, Sem.run_bind, h1, h2, Result.andThen_ok, Sem.run_pure]
  · refine ⟨.bool (!r), fun w' => ?_, by rw [if_neg (by decide)]; exact .sc trivial⟩
    have h1 := run_eqGuard_agg (P := P) w' .neq t x y cx cy hg
    have h2 := run_neq_struct (P := P) w' t cx cy
    rw [hrun] at h2
    simp only [execOp, ex, ey, Sem.run_bind, h1, h2, Result.andThen_ok, Sem.run_pure]
end
section
variable {n : Nat} {ops : Array Oper} {F : Fr} {H : AHeap} {K : APost} {i : Nat} {p : Plan} {dst : Option Tmp} {op : Op} {ty : TypeId} {pos : String} {af : Array Edge} {gd : Nat × Bool}
/-- A step that its guard leaves out. -/
theorem d5 (ho : ops[i]? = some ⟨dst, op, ty, pos, af, some gd⟩) (hg : gval ops F (some gd) = some false) (hd : dstOk n dst = true) (h : AP Try.prog n ops p (F.put dst (.tup [])) H K) : AP Try.prog n ops (.one i p) F H K :=
  d4 ho (w3 hd hg (w4 h))
end
end Abs
end Go.Proofs.Ytbldnaflffmddaa

set_option linter.unusedVariables false
namespace Go.Proofs.Ytbldnaflffmddaa
namespace Abs

/-! ### a field of a value -/
section
variable {P : Program} {tt : TT} {n : Nat} {ops : Array Oper} {rest : List Oper} {F : Fr} {H : AHeap} {dst : Option Tmp} {ty : TypeId} {pos : String} {af : Array Edge} {K : APost}
end
end Abs
end Go.Proofs.Ytbldnaflffmddaa

set_option linter.unusedVariables false
namespace Go.Proofs.Ytbldnaflffmddaa
namespace Abs

/-! ### copy into a row of the call's own; a row that becomes a slice which may grow -/
section
variable {P : Program} {tt : TT} {n : Nat} {ops : Array Oper} {rest : List Oper} {F : Fr} {H : AHeap} {dst : Option Tmp} {ty : TypeId} {pos : String} {af : Array Edge} {K : APost}
/-! ### division -/
theorem pures_rem {t yt : TypeId} {x y : Operand} {k : IntKind} {p q r : Int} (hx : opd F x = some (.sc (.int k p))) (hy : opd F y = some (.sc (.int k q))) (h0 : q ≠ 0) (hr : p.tmod q = r) :
    Pures P n ⟨dst, .binOp .rem t x y yt, ty, pos, af, none⟩ F (.sc (.int k r)) := fun g a w hf => by
  have e1 := (hf.opd hx).eq_sc
  have e2 := (hf.opd hy).eq_sc
  subst hr
  exact ⟨_, fun w' => by simp [execOp, e1, e2, eqGuard, binOp, Op.intDiv, h0], .sc trivial⟩
theorem s_rem (hd : dstOk n dst = true) {t yt : TypeId} {x y : Operand} {k : IntKind} {p q : Int} (hx : opd F x = some (.sc (.int k p))) (hy : opd F y = some (.sc (.int k q))) (h0 : 0 < q) (hp : 0 ≤ p) (hK : AOps P n ops rest (F.put dst (.sc (.int k (p % q)))) H K) :
    AOps P n ops (⟨dst, .binOp .rem t x y yt, ty, pos, af, none⟩ :: rest) F H K := AOps_cons (op_of_pures (pures_rem hx hy (by omega) (Int.tmod_eq_emod_of_nonneg hp)) hd hK)
end
end Abs
end Go.Proofs.Ytbldnaflffmddaa

set_option linter.unusedVariables false
namespace Go.Proofs.Ytbldnaflffmddaa
namespace Abs
/-! ### rules that are tried one by one without looking: heaps, calls, guards -/
theorem put_none3 {H : AHeap} {b c : Nat} {o : HObj} (h : H.put b o c = none) : c ≠ b ∧ b ≠ c ∧ H c = none := ⟨(put_none h).1, fun e => (put_none h).1 e.symm, (put_none h).2⟩
theorem prot_none {H : AHeap} {bs : List Nat} {c : Nat} (h : H.prot bs c = none) : H c = none := by
  unfold AHeap.prot at h
  split at h
  · simpa using h
  · exact h
theorem put_none_iff {H : AHeap} {b c : Nat} {o : HObj} : (H.put b o c = none) ↔ (c ≠ b ∧ b ≠ c ∧ H c = none) := ⟨put_none3, fun h => by rw [put_ne h.1]; exact h.2.2⟩
theorem prot_none_iff {H : AHeap} {bs : List Nat} {c : Nat} : (H.prot bs c = none) ↔ H c = none := ⟨prot_none, fun h => by unfold AHeap.prot; split <;> simp [h]⟩
theorem rd_put {H : AHeap} {b c : Nat} {cs : List AVal} {o : HObj} (hn : c ≠ b) (h : Rd H c cs) : Rd (H.put b o) c cs := by unfold Rd; rw [put_ne hn]; exact h
theorem rd_new {H : AHeap} {b : Nat} {cs : List AVal} : Rd (H.put b (.cells cs)) b cs := .inl (put_same _ _ _)
theorem rd_prot {H : AHeap} {bs : List Nat} {c : Nat} {cs : List AVal} (h : Rd H c cs) : Rd (H.prot bs) c cs := by
  by_cases hm : c ∈ bs
  · exact .inr (prot_get hm h)
  · unfold Rd; rw [prot_other hm]; exact h
theorem get_prot {H : AHeap} {bs : List Nat} {c : Nat} {o : HObj} (hm : c ∉ bs) (h : H c = some o) : H.prot bs c = some o := by rw [prot_other hm]; exact h
theorem rd_ne {H : AHeap} {b c : Nat} {cs : List AVal} (h : Rd H c cs) (hb : H b = none) : c ≠ b := fun e => by rw [e] at h; rcases h with h | h <;> (rw [h] at hb; cases hb)
theorem get_ne {H : AHeap} {b c : Nat} {o : HObj} (h : H c = some o) (hb : H b = none) : c ≠ b := fun e => by rw [e, hb] at h; cases h
theorem get_put {H : AHeap} {b c : Nat} {o p : HObj} (hn : c ≠ b) (h : H c = some p) : H.put b o c = some p := by rw [put_ne hn]; exact h
theorem sub_none {H X : AHeap} {b : Nat} (h : H.sub X) (hb : X b = none) : H b = none := by
  cases hH : H b with
  | none => rfl
  | some o => obtain ⟨o', h1, _⟩ := h b o hH; rw [h1] at hb; cases hb
/-- The functions that have a body. -/
def bods : List Nat := [2, 3, 4, 5, 6, 7, 8, 9, 10, 11, 12, 13, 14, 15, 16, 17, 18, 19, 20, 21, 22, 23, 24, 25, 26, 27, 28, 29, 30, 31, 32, 33, 34, 35, 36, 37, 38, 39, 40, 41, 42, 43, 44, 45, 46, 47, 48, 49, 50, 51, 52, 53, 54, 55, 56, 57, 58, 59, 60, 61, 62, 63, 64, 65, 66, 67, 68, 69, 70, 71, 72, 73, 74, 75, 76, 77, 78, 79, 80, 81, 82, 83, 84, 85, 86, 87, 88, 89, 90, 91, 92, 93, 95, 96, 97, 98, 99, 100, 101]
def hasN : List Nat → Nat → Bool
  | [], _ => false
  | a :: l, n => bif Nat.beq a n then true else hasN l n
theorem hasN_mem : ∀ {l : List Nat} {n : Nat}, hasN l n = true → n ∈ l
  | a :: l, n, h => by
    simp only [hasN] at h
    cases hx : Nat.beq a n with
    | true => rw [Nat.eq_of_beq_eq_true hx]; exact List.mem_cons_self
    | false => rw [hx] at h; exact List.mem_cons_of_mem _ (hasN_mem h)
theorem bods_ok : bods.all (fun f => fnOk Try.prog f) = true := by kernel_rfl
theorem fkall {f : Nat} (h : hasN bods f = true) : fnOk Try.prog f = true := List.all_eq_true.1 bods_ok f (hasN_mem h)
section
variable {n : Nat} {ops : Array Oper} {rest : List Oper} {F : Fr} {H : AHeap} {dst : Option Tmp} {ty : TypeId} {pos : String} {af : Array Edge} {K : APost} {Q : AQ}
theorem sc (hd : dstOk n dst = true) {f : FuncId} {vs : List AVal} {xs : Array Operand} {at_ : Array TypeId} (hxs : opds F xs.toList = some vs) (hf : hasN bods f = true)
    (hK : ACalls Try.prog f vs H (fun v H' => AOps Try.prog n ops rest (F.put dst v) H' K)) : AOps Try.prog n ops (⟨dst, .call { callee := .value (.func f), args := xs, argTypes := at_ }, ty, pos, af, none⟩ :: rest) F H K := s_call hd hxs (fkall hf) hK
end
section
variable {n : Nat} {ops : Array Oper} {F : Fr} {H : AHeap} {dst dst2 dst3 : Option Tmp} {op op2 op3 : Op} {ty ty2 ty3 : TypeId} {pos pos2 pos3 : String} {af af2 af3 : Array Edge} {gd gd2 gd3 : Option (Nat × Bool)} {K : APost} {i j k : Nat} {p q r : Plan}
theorem e4 (ho : ops[i]? = some ⟨dst, op, ty, pos, af, gd⟩) (h : AOps Try.prog n ops [⟨dst, op, ty, pos, af, gd⟩] F H (fun F' H' => AP Try.prog n ops p F' H' K)) : AP Try.prog n ops (.one i p) F H K := ⟨_, ho, h⟩
end
/-- No way out but the ordinary one. -/
def botQ : AQ := fun _ _ _ => False
theorem aw_cut {P : Program} {n : Nat} {F : Fr} {H : AHeap} {c : Code} {Q : AQ} (K : APost) (h : AW P n c F H (thenQ K botQ)) (k : ∀ F' H', K F' H' → Q .normal F' H') : AW P n c F H Q :=
  AW_mono h fun e F' H' hq => by
    cases e with
    | normal => exact k F' H' hq
    | exit id => exact hq.elim
    | goto l => exact hq.elim
    | ret => exact hq.elim
    | panic ch => exact hq.elim
    | outgrown => exact hq.elim
/-- A cut at a region of which the rest follows. -/
theorem aw_cutS {n : Nat} {F : Fr} {H : AHeap} {c d : Code} {Q : AQ} (K : APost) (h : AW Try.prog n c F H (thenQ K botQ)) (k : ∀ F' H', K F' H' → AW Try.prog n d F' H' Q) : AW Try.prog n c F H (thenQ (fun F' H' => AW Try.prog n d F' H' Q) Q) := aw_cut K h k
section
variable {P : Program} {n : Nat} {ops : Array Oper} {rest : List Oper} {F : Fr} {H : AHeap} {K : APost} {Q : AQ} {c : Code} {p : Plan}
theorem gO (h : AOps P n ops rest F H K) : AOps P n ops rest F H K := h
theorem gW (h : AW P n c F H Q) : AW P n c F H Q := h
end
end Abs
end Go.Proofs.Ytbldnaflffmddaa

set_option linter.unusedVariables false
namespace Go.Proofs.Ytbldnaflffmddaa
namespace Abs
/-! ### the rules once more, each with one question to be computed -/
theorem r0 {α : Sort _} {a : α} : a = a := rfl
theorem n1 {H : AHeap} {b c : Nat} {cs : List AVal} (h : Rd H c cs) (hb : H b = none) : c ≠ b := rd_ne h hb
theorem n2 {H : AHeap} {b c : Nat} {o : HObj} (h : H c = some o) (hb : H b = none) : c ≠ b := get_ne h hb
theorem n3 {H : AHeap} {b c : Nat} {cs : List AVal} (h : Rd H c cs) (hb : H b = none) : b ≠ c := (rd_ne h hb).symm
theorem n4 {H : AHeap} {b c : Nat} {o : HObj} (h : H c = some o) (hb : H b = none) : b ≠ c := (get_ne h hb).symm
theorem q0 {H : AHeap} {b : Nat} {cs : List AVal} : Rd (H.put b (.cells cs)) b cs := rd_new
theorem q1 {H : AHeap} {b : Nat} {cs : List AVal} (h : H b = some (.cells cs)) : Rd H b cs := .inl h
theorem q2 {H : AHeap} {b : Nat} {cs : List AVal} (h : H b = some (.ro cs)) : Rd H b cs := .inr h
theorem q3 {H : AHeap} {b c : Nat} {cs : List AVal} {o : HObj} (hn : c ≠ b) (h : Rd H c cs) : Rd (H.put b o) c cs := rd_put hn h
theorem q4 {H : AHeap} {bs : List Nat} {c : Nat} {cs : List AVal} (h : Rd H c cs) : Rd (H.prot bs) c cs := rd_prot h

theorem ps {H : AHeap} {b : Nat} {o : HObj} : H.put b o b = some o := put_same H b o
theorem pg {H : AHeap} {bs : List Nat} {b : Nat} {cs : List AVal} (hm : b ∈ bs) (h : Rd H b cs) : H.prot bs b = some (.ro cs) := prot_get hm h
theorem gp {H : AHeap} {b c : Nat} {o p : HObj} (hn : c ≠ b) (h : H c = some p) : H.put b o c = some p := get_put hn h
theorem gq {H : AHeap} {bs : List Nat} {c : Nat} {o : HObj} (hm : c ∉ bs) (h : H c = some o) : H.prot bs c = some o := get_prot hm h
theorem nm0 {c : Nat} : c ∉ ([] : List Nat) := List.not_mem_nil
theorem nm1 {c a : Nat} {l : List Nat} (h : c ≠ a) (k : c ∉ l) : c ∉ a :: l := fun e => by
  rcases List.mem_cons.1 e with e | e
  · exact h e
  · exact k e
theorem mm0 {a : Nat} {l : List Nat} : a ∈ a :: l := List.mem_cons_self
theorem mm1 {a b : Nat} {l : List Nat} (h : a ∈ l) : a ∈ b :: l := List.mem_cons_of_mem _ h
theorem s0 {H : AHeap} : H.sub H := AHeap.sub_refl H
theorem su1 {H Y : AHeap} {b : Nat} {o : HObj} (hb : H b = none) (h : H.sub Y) : H.sub (Y.put b o) := sub_new hb h
theorem su3 {H X Y : AHeap} {b : Nat} {o : HObj} (hs : H.sub X) (hb : X b = none) (h : H.sub Y) : H.sub (Y.put b o) := sub_new (sub_none hs hb) h
section
variable {n : Nat} {ops : Array Oper} {rest : List Oper} {F F' : Fr} {H : AHeap} {dst : Option Tmp} {op : Op} {ty : TypeId} {pos : String} {af : Array Edge} {gd : Option (Nat × Bool)} {K : APost} {Q : AQ} {v : AVal}

def p1 (n : Nat) (dst : Option Tmp) (F : Fr) (op : Op) : Option AVal := bif dstOk n dst then pev ttab F op else none
theorem p1_ok (h : p1 n dst F op = some v) : dstOk n dst = true ∧ pev ttab F op = some v := by
  unfold p1 at h
  cases hd : dstOk n dst with
  | true => rw [hd] at h; exact ⟨rfl, h⟩
  | false => rw [hd] at h; cases h
/-- Steps that touch no memory, as many as there are. -/
def runP (n : Nat) (ops : Array Oper) : Fr → List Oper → Fr × List Oper
  | F, [] => (F, [])
  | F, o :: l => match o.guard with
    | none => match p1 n o.dst F o.op with
      | some v => runP n ops (F.put o.dst v) l
      | none => (F, o :: l)
    | some _ => (F, o :: l)
theorem runP_ok : ∀ {l : List Oper} {F : Fr}, AOps Try.prog n ops (runP n ops F l).2 (runP n ops F l).1 H K → AOps Try.prog n ops l F H K
  | [], F, h => h
  | ⟨dst, op, ty, pos, af, none⟩ :: l, F, h => by
    simp only [runP] at h
    split at h
    · rename_i v hv
      obtain ⟨h1, h2⟩ := p1_ok hv
      exact AOps_cons (op_pure tk h1 h2 (runP_ok h))
    · exact h
  | ⟨dst, op, ty, pos, af, some gd⟩ :: l, F, h => h
def less (l' l : List Oper) : Bool := Nat.blt l'.length l.length
theorem x1 {l l' : List Oper} (h : runP n ops F l = (F', l')) (hl : less l' l = true) (hK : AOps Try.prog n ops l' F' H K) : AOps Try.prog n ops l F H K := runP_ok (by rw [h]; exact hK)

def ldp (n : Nat) (dst : Option Tmp) (F : Fr) (t : TypeId) (x : Operand) : Option (Nat × Nat × Nat × Bool) :=
  bif dstOk n dst then match opd F x, find ttab.size t with
    | some (.ptr b off), some (k, ag) => some (b, off, k, ag)
    | _, _ => none else none
def ldv (off k : Nat) (ag : Bool) (cs : List AVal) : Option AVal :=
  bif ag then (bif Nat.beq off 0 && Nat.beq cs.length k then some (.agg cs) else bif Nat.ble (off + k) cs.length then some (.agg ((cs.drop off).take k)) else none) else cs[off]?
theorem ldp_ok {t : TypeId} {x : Operand} {b off k : Nat} {ag : Bool} (h : ldp n dst F t x = some (b, off, k, ag)) : dstOk n dst = true ∧ opd F x = some (.ptr b off) ∧ find ttab.size t = some (k, ag) := by
  unfold ldp at h
  cases hd : dstOk n dst with
  | false => rw [hd] at h; cases h
  | true =>
    rw [hd] at h
    simp only [cond_true] at h
    split at h
    · rename_i h1 h2; cases h; exact ⟨rfl, h1, h2⟩
    · cases h
theorem ldv_agg {off k : Nat} {cs : List AVal} (h : ldv off k true cs = some v) : off + k ≤ cs.length ∧ v = .agg ((cs.drop off).take k) := by
  unfold ldv at h
  simp only [cond_true] at h
  cases hb : Nat.beq off 0 && Nat.beq cs.length k with
  | true =>
    rw [hb] at h
    simp only [Bool.and_eq_true] at hb
    have h1 := Nat.eq_of_beq_eq_true hb.1
    have h2 := Nat.eq_of_beq_eq_true hb.2
    subst h1 h2
    cases h
    exact ⟨by omega, by simp⟩
  | false =>
    rw [hb] at h
    simp only [cond_false] at h
    cases hc : Nat.ble (off + k) cs.length with
    | true => rw [hc] at h; cases h; exact ⟨Nat.le_of_ble_eq_true hc, rfl⟩
    | false => rw [hc] at h; cases h
/-- A load. -/
theorem x2 {t : TypeId} {x : Operand} {b off k : Nat} {ag : Bool} {cs : List AVal} (h : ldp n dst F t x = some (b, off, k, ag)) (hH : Rd H b cs) (hv : ldv off k ag cs = some v) (hK : AOps Try.prog n ops rest (F.put dst v) H K) :
    AOps Try.prog n ops (⟨dst, .load t x, ty, pos, af, none⟩ :: rest) F H K := by
  obtain ⟨h1, h2, h3⟩ := ldp_ok h
  cases ag with
  | false => exact s_load tk h1 h2 hH h3 hv hK
  | true =>
    obtain ⟨h4, h5⟩ := ldv_agg hv
    subst h5
    exact s_loada tk h1 h2 hH h3 h4 rfl hK
def epv (n : Nat) (dst : Option Tmp) (F : Fr) (t : TypeId) (x : Operand) : Option AVal :=
  bif dstOk n dst then match opd F x, find ttab.size t with
    | some (.ept c off), some (k, ag) => ldv off k ag c
    | _, _ => none else none
theorem epv_ok {t : TypeId} {x : Operand} (h : epv n dst F t x = some v) : dstOk n dst = true ∧ ∃ c off k ag, opd F x = some (.ept c off) ∧ find ttab.size t = some (k, ag) ∧ ldv off k ag c = some v := by
  unfold epv at h
  cases hd : dstOk n dst with
  | false => rw [hd] at h; cases h
  | true =>
    rw [hd] at h
    simp only [cond_true] at h
    split at h
    · rename_i h1 h2; exact ⟨rfl, _, _, _, _, h1, h2, h⟩
    · cases h
/-- A load out of a slice's element. -/
theorem x3 {t : TypeId} {x : Operand} (h : epv n dst F t x = some v) (hK : AOps Try.prog n ops rest (F.put dst v) H K) :
    AOps Try.prog n ops (⟨dst, .load t x, ty, pos, af, none⟩ :: rest) F H K := by
  obtain ⟨h1, c, off, k, ag, h2, h3, hv⟩ := epv_ok h
  cases ag with
  | false => exact s_ept tk h1 h2 h3 hv hK
  | true =>
    obtain ⟨h4, h5⟩ := ldv_agg hv
    subst h5
    exact s_epta tk h1 h2 h3 h4 rfl hK
def ar2 (n : Nat) (dst : Option Tmp) (F : Fr) (x y : Operand) : Option (Int × Int) :=
  bif dstOk n dst then match opd F x, opd F y with
    | some (.sc (.int .i64 p)), some (.sc (.int .i64 q)) => some (p, q)
    | _, _ => none else none
theorem ar2_ok {x y : Operand} {p q : Int} (h : ar2 n dst F x y = some (p, q)) : dstOk n dst = true ∧ opd F x = some (.sc (.int .i64 p)) ∧ opd F y = some (.sc (.int .i64 q)) := by
  unfold ar2 at h
  cases hd : dstOk n dst with
  | false => rw [hd] at h; cases h
  | true =>
    rw [hd] at h
    simp only [cond_true] at h
    split at h
    · rename_i h1 h2; cases h; exact ⟨rfl, h1, h2⟩
    · cases h
theorem x6 {t yt : TypeId} {x y : Operand} {p q : Int} (h : ar2 n dst F x y = some (p, q)) (hb : -9223372036854775808 ≤ p + q ∧ p + q ≤ 9223372036854775807) (hK : AOps Try.prog n ops rest (F.put dst (.sc (.int .i64 (p + q)))) H K) :
    AOps Try.prog n ops (⟨dst, .binOp .add t x y yt, ty, pos, af, none⟩ :: rest) F H K := let ⟨h1, h2, h3⟩ := ar2_ok h; s_add h1 h2 h3 hb hK
theorem x7 {t yt : TypeId} {x y : Operand} {p q : Int} (h : ar2 n dst F x y = some (p, q)) (hb : -9223372036854775808 ≤ p - q ∧ p - q ≤ 9223372036854775807) (hK : AOps Try.prog n ops rest (F.put dst (.sc (.int .i64 (p - q)))) H K) :
    AOps Try.prog n ops (⟨dst, .binOp .sub t x y yt, ty, pos, af, none⟩ :: rest) F H K := let ⟨h1, h2, h3⟩ := ar2_ok h; s_sub h1 h2 h3 hb hK
def pk3 (n : Nat) (dst : Option Tmp) (F : Fr) (c x y : Operand) : Option AVal :=
  bif dstOk n dst then match opd F c, opd F x, opd F y with
    | some (.sc (.bool b)), some (.sc (.bool p)), some (.sc (.bool q)) => some (.sc (.bool (bif b then p else q)))
    | _, _, _ => none else none
theorem pk3_ok {c x y : Operand} (h : pk3 n dst F c x y = some v) : dstOk n dst = true ∧ ∃ b p q, opd F c = some (.sc (.bool b)) ∧ opd F x = some (.sc (.bool p)) ∧ opd F y = some (.sc (.bool q)) ∧ v = .sc (.bool (bif b then p else q)) := by
  unfold pk3 at h
  cases hd : dstOk n dst with
  | false => rw [hd] at h; cases h
  | true =>
    rw [hd] at h
    simp only [cond_true] at h
    split at h
    · rename_i h1 h2 h3; cases h; exact ⟨rfl, _, _, _, h1, h2, h3, rfl⟩
    · cases h
theorem x8 {c x y : Operand} (h : pk3 n dst F c x y = some v) (hK : AOps Try.prog n ops rest (F.put dst v) H K) : AOps Try.prog n ops (⟨dst, .pick c x y, ty, pos, af, none⟩ :: rest) F H K := by
  obtain ⟨h1, b, p, q, h2, h3, h4, rfl⟩ := pk3_ok h
  exact s_pick h1 h2 h3 h4 hK
def cl1 (n : Nat) (dst : Option Tmp) (F : Fr) (f : FuncId) (xs : Array Operand) : Option (List AVal) := bif dstOk n dst && hasN bods f then opds F xs.toList else none
theorem x9 {f : FuncId} {vs : List AVal} {xs : Array Operand} {at_ : Array TypeId} (h : cl1 n dst F f xs = some vs) (hK : ACalls Try.prog f vs H (fun v H' => AOps Try.prog n ops rest (F.put dst v) H' K)) :
    AOps Try.prog n ops (⟨dst, .call { callee := .value (.func f), args := xs, argTypes := at_ }, ty, pos, af, none⟩ :: rest) F H K := by
  unfold cl1 at h
  cases hd : dstOk n dst && hasN bods f with
  | false => rw [hd] at h; cases h
  | true =>
    rw [hd] at h
    simp only [Bool.and_eq_true] at hd
    exact sc hd.1 h hd.2 hK
/-- A guard that says yes. -/
theorem x5 {jw : Nat × Bool} (hg : gval ops F (some jw) = some true) (h : AOps Try.prog n ops (⟨dst, op, ty, pos, af, none⟩ :: rest) F H K) : AOps Try.prog n ops (⟨dst, op, ty, pos, af, some jw⟩ :: rest) F H K := s_yes hg h

def stp (F : Fr) (t : TypeId) (x y : Operand) : Option (Nat × Nat × Nat × Bool × AVal) :=
  match opd F x, opd F y, find ttab.size t with
  | some (.ptr b off), some v, some (k, ag) => some (b, off, k, ag, v)
  | _, _, _ => none
def stv (off k : Nat) (ag : Bool) (cs : List AVal) (v : AVal) : Option (List AVal) :=
  bif ag then (match v with
    | .agg vs => bif Nat.beq vs.length k && flatA vs then (bif Nat.beq off 0 && Nat.beq cs.length k then some vs else bif Nat.ble (off + k) cs.length then some (cs.take off ++ vs ++ cs.drop (off + k)) else none) else none
    | _ => none)
  else bif Nat.beq k 1 && (Nat.blt off cs.length && one v) then some (cs.set off v) else none
/-- A store. -/
theorem xst {t : TypeId} {x y : Operand} {b off k : Nat} {ag : Bool} {cs cs' : List AVal} (h : stp F t x y = some (b, off, k, ag, v)) (hH : H b = some (.cells cs)) (hv : stv off k ag cs v = some cs') (hK : AOps Try.prog n ops rest F (H.put b (.cells cs')) K) :
    AOps Try.prog n ops (⟨none, .store t x y, ty, pos, af, none⟩ :: rest) F H K := by
  unfold stp at h
  split at h
  · rename_i h1 h2 h3
    cases h
    unfold stv at hv
    cases ag with
    | true =>
      simp only [cond_true] at hv
      split at hv
      · rename_i vs
        cases hc : Nat.beq vs.length k && flatA vs with
        | false => rw [hc] at hv; cases hv
        | true =>
          rw [hc] at hv
          simp only [cond_true] at hv
          simp only [Bool.and_eq_true] at hc
          have hk := Nat.eq_of_beq_eq_true hc.1
          cases hd : Nat.beq off 0 && Nat.beq cs.length k with
          | true =>
            rw [hd] at hv
            cases hv
            simp only [Bool.and_eq_true] at hd
            have h4 := Nat.eq_of_beq_eq_true hd.1
            have h5 := Nat.eq_of_beq_eq_true hd.2
            subst h4
            exact s_storew tk h1 h2 hH h3 hk h5 hc.2 hK
          | false =>
            rw [hd] at hv
            simp only [cond_false] at hv
            cases he : Nat.ble (off + k) cs.length with
            | false => rw [he] at hv; cases hv
            | true =>
              rw [he] at hv
              cases hv
              exact s_storea tk h1 h2 hH h3 hk (Nat.le_of_ble_eq_true he) hc.2 rfl hK
      · cases hv
    | false =>
      simp only [cond_false] at hv
      cases hc : Nat.beq k 1 && (Nat.blt off cs.length && one v) with
      | false => rw [hc] at hv; cases hv
      | true =>
        rw [hc] at hv
        cases hv
        simp only [Bool.and_eq_true] at hc
        have hk := Nat.eq_of_beq_eq_true hc.1
        subst hk
        exact s_store tk h1 h2 hH h3 (Nat.le_of_ble_eq_true hc.2.1) hc.2.2 hK
  · cases h

def bld (n : Nat) (dst : Option Tmp) (F : Fr) (t : TypeId) (parts : Array (Nat × Operand)) : Option AVal :=
  bif dstOk n dst then match find ttab.flds t, find ttab.zero t with
    | some fs, some zs => match absL zs, partsA F parts.toList with
      | some cs, some r => match fillA ttab fs cs r with
        | some out => some (.agg out)
        | none => none
      | _, _ => none
    | _, _ => none else none
/-- A struct that is built. -/
theorem xbd {t : TypeId} {parts : Array (Nat × Operand)} (h : bld n dst F t parts = some v) (hK : AOps Try.prog n ops rest (F.put dst v) H K) : AOps Try.prog n ops (⟨dst, .build t parts, ty, pos, af, none⟩ :: rest) F H K := by
  unfold bld at h
  cases hd : dstOk n dst with
  | false => rw [hd] at h; cases h
  | true =>
    rw [hd] at h
    simp only [cond_true] at h
    split at h
    · rename_i h1 h2
      split at h
      · rename_i h3 h4
        split at h
        · rename_i h5
          cases h
          exact s_build tk hd h1 h2 h3 h4 h5 hK
        · cases h
      · cases h
    · cases h
def bsl (n : Nat) (dst : Option Tmp) (F : Fr) (t : TypeId) (len : Nat) (parts : Array (Nat × Operand)) : Option AVal :=
  bif dstOk n dst && inRow 0 parts.toList then match find ttab.slc t, opds F (parts.toList.map (·.2)) with
    | some (_, es, _), some vs => match rowsOf vs with
      | some rows => bif Nat.beq rows.length len && (rows.all (fun r => Nat.beq r.length es) && Nat.ble (len * es) 16777216) then some (.sl rows .full) else none
      | none => none
    | _, _ => none else none
/-- A slice that is built. -/
theorem xbs {t : TypeId} {len : Nat} {parts : Array (Nat × Operand)} (h : bsl n dst F t len parts = some v) (hK : AOps Try.prog n ops rest (F.put dst v) H K) : AOps Try.prog n ops (⟨dst, .buildSlice t len parts, ty, pos, af, none⟩ :: rest) F H K := by
  unfold bsl at h
  cases hd : dstOk n dst && inRow 0 parts.toList with
  | false => rw [hd] at h; cases h
  | true =>
    rw [hd] at h
    simp only [cond_true] at h
    simp only [Bool.and_eq_true] at hd
    split at h
    · rename_i h1 h2
      split at h
      · rename_i rows h3
        cases hc : Nat.beq rows.length len && (rows.all (fun r => Nat.beq r.length _) && Nat.ble (len * _) 16777216) with
        | false => rw [hc] at h; cases h
        | true =>
          rw [hc] at h
          cases h
          simp only [Bool.and_eq_true, List.all_eq_true] at hc
          exact s_bslice tk hd.1 h1 hd.2 h2 h3 (Nat.eq_of_beq_eq_true hc.1) (fun r hr => Nat.eq_of_beq_eq_true (hc.2.1 r hr)) (Nat.le_of_ble_eq_true hc.2.2) hK
      · cases h
    · cases h

/-! ### plans -/
variable {i : Nat} {p p' : Plan}
def take1 (n : Nat) (ops : Array Oper) (F : Fr) (i : Nat) : Option (Option Tmp × AVal) :=
  match ops[i]? with
  | some o => match gval ops F o.guard with
    | some true => match p1 n o.dst F o.op with
      | some v => some (o.dst, v)
      | none => none
    | some false => bif dstOk n o.dst then some (o.dst, .tup []) else none
    | none => none
  | none => none
def size : Plan → Nat
  | .take _ p => size p + 1
  | .one _ p => size p + 1
  | .two _ _ p q => size p + size q + 1
  | .three _ _ _ p q r => size p + size q + size r + 1
  | .done => 0
theorem take1_ok {d : Option Tmp} (ht : take1 n ops F i = some (d, v)) (h' : AP Try.prog n ops p (F.put d v) H K) : AP Try.prog n ops (.take i p) F H K := by
  unfold take1 at ht
  split at ht
  · rename_i o ho
    obtain ⟨dst, op, ty, pos, af, gd⟩ := o
    simp only at ht
    split at ht
    · rename_i hg
      split at ht
      · rename_i v hv
        cases ht
        obtain ⟨h1, h2⟩ := p1_ok hv
        exact d1 ho hg h1 h2 h'
      · cases ht
    · rename_i hg
      cases hd : dstOk n dst with
      | true => rw [hd] at ht; cases ht; exact d2 ho hg hd h'
      | false => rw [hd] at ht; cases ht
    · cases ht
  · cases ht
def bare (ops : Array Oper) (i : Nat) : Bool := match ops[i]? with
  | some o => match o.guard with
    | none => true
    | some _ => false
  | none => false
def runA (n : Nat) (ops : Array Oper) : Fr → Plan → Fr × Plan
  | F, .take i p => bif bare ops i then match take1 n ops F i with
    | some (d, v) => runA n ops (F.put d v) p
    | none => (F, .take i p) else (F, .take i p)
  | F, p => (F, p)
theorem runA_ok : ∀ {p : Plan} {F : Fr}, AP Try.prog n ops (runA n ops F p).2 (runA n ops F p).1 H K → AP Try.prog n ops p F H K
  | .take i p, F, h => by
    simp only [runA] at h
    cases hb : bare ops i with
    | false => rw [hb] at h; exact h
    | true =>
      rw [hb] at h
      simp only [cond_true] at h
      split at h
      · rename_i d v ht
        exact take1_ok ht (runA_ok h)
      · exact h
  | .one i p, F, h => h
  | .done, F, h => h
  | .two i j p q, F, h => h
  | .three i j k p q r, F, h => h
theorem y1 (h : runA n ops F p = (F', p')) (hl : Nat.blt (size p') (size p) = true) (hK : AP Try.prog n ops p' F' H K) : AP Try.prog n ops p F H K := runA_ok (by rw [h]; exact hK)
theorem y0 (h : K F H) : AP Try.prog n ops .done F H K := d3 h
def opAt (ops : Array Oper) (F : Fr) (i : Nat) : Option (Option Tmp × Op) :=
  match ops[i]? with
  | some o => match gval ops F o.guard with
    | some true => some (o.dst, o.op)
    | _ => none
  | none => none
theorem opAt_ok {op : Op} (h : opAt ops F i = some (dst, op)) : ∃ ty pos af gd, ops[i]? = some ⟨dst, op, ty, pos, af, gd⟩ ∧ gval ops F gd = some true := by
  unfold opAt at h
  split at h
  · rename_i o ho
    obtain ⟨d, op', ty, pos, af, gd⟩ := o
    simp only at h
    split at h
    · rename_i hg; cases h; exact ⟨_, _, _, _, ho, hg⟩
    · cases h
  · cases h
/-- A load of a protected block. -/
theorem y2 {t : TypeId} {x : Operand} {b off k : Nat} {ag : Bool} {cs : List AVal} (ho : opAt ops F i = some (dst, .load t x)) (h : ldp n dst F t x = some (b, off, k, ag)) (hH : H b = some (.ro cs)) (hv : ldv off k ag cs = some v)
    (hK : AP Try.prog n ops p (F.put dst v) H K) : AP Try.prog n ops (.take i p) F H K := by
  obtain ⟨ty, pos, af, gd, h0, hg⟩ := opAt_ok ho
  obtain ⟨h1, h2, h3⟩ := ldp_ok h
  cases ag with
  | false => exact d_ro h0 hg h1 h2 hH h3 hv hK
  | true =>
    obtain ⟨h4, h5⟩ := ldv_agg hv
    subst h5
    exact d_roa h0 hg h1 h2 hH h3 h4 rfl hK
theorem y4 (ho : ops[i]? = some ⟨dst, op, ty, pos, af, gd⟩) (h : AOps Try.prog n ops [⟨dst, op, ty, pos, af, gd⟩] F H (fun F' H' => AP Try.prog n ops p F' H' K)) : AP Try.prog n ops (.one i p) F H K := ⟨_, ho, h⟩
end
end Abs
end Go.Proofs.Ytbldnaflffmddaa

set_option linter.unusedVariables false
namespace Go.Proofs.Ytbldnaflffmddaa
namespace Abs
/-! ### shifts, masks -/
section
variable {P : Program} {n : Nat} {ops : Array Oper} {rest : List Oper} {F : Fr} {H : AHeap} {dst : Option Tmp} {ty : TypeId} {pos : String} {af : Array Edge} {K : APost}
end
section
variable {n : Nat} {ops : Array Oper} {F : Fr} {H : AHeap} {dst : Option Tmp} {ty : TypeId} {pos : String} {af : Array Edge} {gd : Option (Nat × Bool)} {K : APost} {i : Nat} {p : Plan}
end
def in64 (n : Int) : Prop := -9223372036854775808 ≤ n ∧ n ≤ 9223372036854775807
end Abs
end Go.Proofs.Ytbldnaflffmddaa
