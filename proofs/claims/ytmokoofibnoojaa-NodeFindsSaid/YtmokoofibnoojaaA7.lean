import Derived.Test.YtmokoofibnoojaaA6
set_option linter.unusedVariables false
namespace Go.Proofs.Ytmokoofibnoojaa
namespace Abs

theorem wrap_id {n : Int} (h : -9223372036854775808 ≤ n ∧ n ≤ 9223372036854775807) : IntKind.i64.wrap n = n := by
  simp only [IntKind.wrap, IntKind.signed]
  simp [IntKind.bits]
  omega
theorem HWk_zero {cs cs' : List AVal} (h : cs.length = cs'.length) (k : ∀ j (h : j < cs.length) (h' : j < cs'.length), Wk cs[j] cs'[j]) : HWk (.cells cs) (.cells cs') := .cells (.agg h k)

/-! ### Steps of a walk: an operation at a time -/
section
variable {P : Program} {tt : TT} {n : Nat} {ops : Array Oper} {rest : List Oper} {F : Fr} {H : AHeap} {dst : Option Tmp} {ty : TypeId} {pos : String} {af : Array Edge} {K : APost}

theorem s_pure (tk : TTok tt P) {op : Op} {v : AVal} (hd : dstOk n dst = true) (h : pev tt F op = some v) (hK : AOps P n ops rest (F.put dst v) H K) : AOps P n ops (⟨dst, op, ty, pos, af, none⟩ :: rest) F H K :=
  AOps_cons (op_pure tk hd h hK)
theorem s_yes {op : Op} {jw : Nat × Bool} (hg : gval ops F (some jw) = some true) (h : AOps P n ops (⟨dst, op, ty, pos, af, none⟩ :: rest) F H K) : AOps P n ops (⟨dst, op, ty, pos, af, some jw⟩ :: rest) F H K := fun g a w Q hi hf hk => by
  have hw := wanted_of hf (o := ⟨dst, op, ty, pos, af, some jw⟩) hg
  have := h g a w Q hi hf hk
  unfold wpList at this ⊢
  rw [wanted_none] at this
  rw [if_pos hw]
  exact this
theorem s_no {op : Op} {jw : Nat × Bool} (hd : dstOk n dst = true) (hg : gval ops F (some jw) = some false) (h : AOps P n ops rest (F.put dst (.tup [])) H K) : AOps P n ops (⟨dst, op, ty, pos, af, some jw⟩ :: rest) F H K :=
  AOps_cons (op_guard_no hd hg h)
/-- A guard that is not known: both ways. -/
theorem s_gsplit {op : Op} {j : Nat} {want b : Bool} {d : Nat} (hj : (ops[j]?).bind (·.dst) = some d) (hx : F.get d = some (.sc (.bool b)))
    (ht : b = true → AOps P n ops (⟨dst, op, ty, pos, af, some (j, want)⟩ :: rest) ((d, .sc (.bool true)) :: F) H K) (hf : b = false → AOps P n ops (⟨dst, op, ty, pos, af, some (j, want)⟩ :: rest) ((d, .sc (.bool false)) :: F) H K) :
    AOps P n ops (⟨dst, op, ty, pos, af, some (j, want)⟩ :: rest) F H K := AOps_split d b hx ht hf
theorem s_pick {c x y : Operand} {b p q : Bool} (hd : dstOk n dst = true) (hc : opd F c = some (.sc (.bool b))) (hx : opd F x = some (.sc (.bool p))) (hy : opd F y = some (.sc (.bool q)))
    (hK : AOps P n ops rest (F.put dst (.sc (.bool (bif b then p else q)))) H K) : AOps P n ops (⟨dst, .pick c x y, ty, pos, af, none⟩ :: rest) F H K := AOps_cons (op_of_pures (pures_pick hc hx hy) hd hK)
theorem s_add {t yt : TypeId} {x y : Operand} {p q : Int} (hd : dstOk n dst = true) (hx : opd F x = some (.sc (.int .i64 p))) (hy : opd F y = some (.sc (.int .i64 q))) (hb : -9223372036854775808 ≤ p + q ∧ p + q ≤ 9223372036854775807)
    (hK : AOps P n ops rest (F.put dst (.sc (.int .i64 (p + q)))) H K) : AOps P n ops (⟨dst, .binOp .add t x y yt, ty, pos, af, none⟩ :: rest) F H K :=
  AOps_cons (op_of_pures (pures_arith hx hy (by simp only [wrap_id hb])) hd hK)
theorem s_sub {t yt : TypeId} {x y : Operand} {p q : Int} (hd : dstOk n dst = true) (hx : opd F x = some (.sc (.int .i64 p))) (hy : opd F y = some (.sc (.int .i64 q))) (hb : -9223372036854775808 ≤ p - q ∧ p - q ≤ 9223372036854775807)
    (hK : AOps P n ops rest (F.put dst (.sc (.int .i64 (p - q)))) H K) : AOps P n ops (⟨dst, .binOp .sub t x y yt, ty, pos, af, none⟩ :: rest) F H K :=
  AOps_cons (op_of_pures (pures_arith hx hy (by simp only [wrap_id hb])) hd hK)
theorem s_arith {op : BinOp} {t yt : TypeId} {x y : Operand} {k : IntKind} {p q r : Int} (hd : dstOk n dst = true) (hx : opd F x = some (.sc (.int k p))) (hy : opd F y = some (.sc (.int k q)))
    (hr : (match op with | .add => some (k.wrap (p + q)) | .sub => some (k.wrap (p - q)) | .mul => some (k.wrap (p * q)) | _ => none) = some r)
    (hK : AOps P n ops rest (F.put dst (.sc (.int k r))) H K) : AOps P n ops (⟨dst, .binOp op t x y yt, ty, pos, af, none⟩ :: rest) F H K := AOps_cons (op_of_pures (pures_arith hx hy hr) hd hK)
theorem s_bits {op : BinOp} {t yt : TypeId} {x y : Operand} {k : IntKind} {p q : Int} (hd : dstOk n dst = true) (hx : opd F x = some (.sc (.int k p))) (hy : opd F y = some (.sc (.int k q))) (ho : isBits op = true)
    (hK : AOps P n ops rest (F.put dst (.sc (.int k (bitsR op k p q)))) H K) : AOps P n ops (⟨dst, .binOp op t x y yt, ty, pos, af, none⟩ :: rest) F H K := AOps_cons (op_of_pures (pures_bits hx hy ho rfl) hd hK)
theorem s_cat {t yt : TypeId} {x y : Operand} {p q : ByteArray} (hd : dstOk n dst = true) (hx : opd F x = some (.sc (.string p))) (hy : opd F y = some (.sc (.string q))) (hl : p.size + q.size ≤ 9223372036854775807)
    (hK : AOps P n ops rest (F.put dst (.sc (.string (p ++ q)))) H K) : AOps P n ops (⟨dst, .binOp .add t x y yt, ty, pos, af, none⟩ :: rest) F H K := AOps_cons (op_of_pures (pures_cat hx hy hl) hd hK)
theorem s_conv (tk : TTok tt P) {src d : TypeId} {x : Operand} {j k : IntKind} {p r : Int} (hd : dstOk n dst = true) (hx : opd F x = some (.sc (.int j p))) (hs : find tt.ints src = some j) (hdd : find tt.ints d = some k) (hr : k.wrap p = r)
    (hK : AOps P n ops rest (F.put dst (.sc (.int k r))) H K) : AOps P n ops (⟨dst, .convert src d x, ty, pos, af, none⟩ :: rest) F H K := AOps_cons (op_of_pures (pures_conv (u := ()) tk hx hs hdd hr) hd hK)
theorem s_load (tk : TTok tt P) {t : TypeId} {x : Operand} {b off k : Nat} {cs : List AVal} {v : AVal} (hd : dstOk n dst = true) (hx : opd F x = some (.ptr b off)) (hH : Rd H b cs) (ht : find tt.size t = some (k, false)) (hv : cs[off]? = some v)
    (hK : AOps P n ops rest (F.put dst v) H K) : AOps P n ops (⟨dst, .load t x, ty, pos, af, none⟩ :: rest) F H K := AOps_cons (op_of_reads hd (reads_load_sc tk hx hH ht hv) hK)
theorem s_loada (tk : TTok tt P) {t : TypeId} {x : Operand} {b off k : Nat} {cs ds : List AVal} (hd : dstOk n dst = true) (hx : opd F x = some (.ptr b off)) (hH : Rd H b cs) (ht : find tt.size t = some (k, true)) (hl : off + k ≤ cs.length)
    (hds : (cs.drop off).take k = ds) (hK : AOps P n ops rest (F.put dst (.agg ds)) H K) : AOps P n ops (⟨dst, .load t x, ty, pos, af, none⟩ :: rest) F H K := AOps_cons (op_of_reads hd (by subst hds; exact reads_load_agg tk hx hH ht hl) hK)
theorem s_loadw (tk : TTok tt P) {t : TypeId} {x : Operand} {b k : Nat} {cs : List AVal} (hd : dstOk n dst = true) (hx : opd F x = some (.ptr b 0)) (hH : Rd H b cs) (ht : find tt.size t = some (k, true)) (hl : cs.length = k)
    (hK : AOps P n ops rest (F.put dst (.agg cs)) H K) : AOps P n ops (⟨dst, .load t x, ty, pos, af, none⟩ :: rest) F H K := AOps_cons (op_of_reads hd (reads_load_whole tk hx hH ht hl) hK)
theorem s_ept (tk : TTok tt P) {t : TypeId} {x : Operand} {c : List AVal} {off k : Nat} {v : AVal} (hd : dstOk n dst = true) (hx : opd F x = some (.ept c off)) (ht : find tt.size t = some (k, false)) (hv : c[off]? = some v)
    (hK : AOps P n ops rest (F.put dst v) H K) : AOps P n ops (⟨dst, .load t x, ty, pos, af, none⟩ :: rest) F H K := AOps_cons (op_of_reads hd (reads_ept_sc tk hx ht hv) hK)
theorem s_epta (tk : TTok tt P) {t : TypeId} {x : Operand} {c ds : List AVal} {off k : Nat} (hd : dstOk n dst = true) (hx : opd F x = some (.ept c off)) (ht : find tt.size t = some (k, true)) (hl : off + k ≤ c.length) (hds : (c.drop off).take k = ds)
    (hK : AOps P n ops rest (F.put dst (.agg ds)) H K) : AOps P n ops (⟨dst, .load t x, ty, pos, af, none⟩ :: rest) F H K := AOps_cons (op_of_reads hd (by subst hds; exact reads_ept_agg tk hx ht hl) hK)
theorem s_store (tk : TTok tt P) {t : TypeId} {x y : Operand} {b off : Nat} {cs : List AVal} {v : AVal} (hx : opd F x = some (.ptr b off)) (hy : opd F y = some v) (hH : H b = some (.cells cs))
    (ht : find tt.size t = some (1, false)) (hl : off < cs.length) (h1 : one v = true) (hK : AOps P n ops rest F (H.put b (.cells (cs.set off v))) K) : AOps P n ops (⟨none, .store t x y, ty, pos, af, none⟩ :: rest) F H K := AOps_cons (op_store_sc (k := 1) tk hx hy hH ht hl h1 hK)
theorem s_storea (tk : TTok tt P) {t : TypeId} {x y : Operand} {b off k : Nat} {cs vs ds : List AVal} (hx : opd F x = some (.ptr b off)) (hy : opd F y = some (.agg vs)) (hH : H b = some (.cells cs))
    (ht : find tt.size t = some (k, true)) (hk' : vs.length = k) (hl : off + k ≤ cs.length) (h1 : flatA vs = true) (hds : cs.take off ++ vs ++ cs.drop (off + k) = ds) (hK : AOps P n ops rest F (H.put b (.cells ds)) K) : AOps P n ops (⟨none, .store t x y, ty, pos, af, none⟩ :: rest) F H K :=
  AOps_cons (op_store_agg tk hx hy hH ht hk' hl h1 (by rw [hds]; exact hK))
theorem s_storew (tk : TTok tt P) {t : TypeId} {x y : Operand} {b k : Nat} {cs vs : List AVal} (hx : opd F x = some (.ptr b 0)) (hy : opd F y = some (.agg vs)) (hH : H b = some (.cells cs))
    (ht : find tt.size t = some (k, true)) (hk' : vs.length = k) (hl : cs.length = k) (h1 : flatA vs = true) (hK : AOps P n ops rest F (H.put b (.cells vs)) K) : AOps P n ops (⟨none, .store t x y, ty, pos, af, none⟩ :: rest) F H K := AOps_cons (op_store_whole tk hx hy hH ht hk' hl h1 hK)
theorem s_box (hd : dstOk n dst = true) {e : TypeId} {x : Operand} {v : AVal} {cs : List AVal} (hx : opd F x = some v) (hc : cellsOf v = some cs) (hK : ∀ b, H b = none → AOps P n ops rest (F.put dst (.ptr b 0)) (H.put b (.cells cs)) K) :
    AOps P n ops (⟨dst, .box e x, ty, pos, af, none⟩ :: rest) F H K := AOps_cons (op_box hd hx hc hK)
theorem s_alloc (tk : TTok tt P) (hd : dstOk n dst = true) {e : TypeId} {zs : List Value} {cs : List AVal} (hz : find tt.zero e = some zs) (hc : absL zs = some cs) (hK : ∀ b, H b = none → AOps P n ops rest (F.put dst (.ptr b 0)) (H.put b (.cells cs)) K) :
    AOps P n ops (⟨dst, .alloc e, ty, pos, af, none⟩ :: rest) F H K := AOps_cons (op_alloc tk hd hz hc hK)
theorem s_call (hd : dstOk n dst = true) {f : FuncId} {vs : List AVal} {xs : Array Operand} {at_ : Array TypeId} (hxs : opds F xs.toList = some vs) (hf : fnOk P f = true)
    (hK : ACalls P f vs H (fun v H' => AOps P n ops rest (F.put dst v) H' K)) : AOps P n ops (⟨dst, .call { callee := .value (.func f), args := xs, argTypes := at_ }, ty, pos, af, none⟩ :: rest) F H K := AOps_cons (op_call hd hf hxs hK)
theorem s_clo (hd : dstOk n dst = true) {c : Nat} {f : FuncId} {fs cs vs : List AVal} {xs : Array Operand} {at_ : Array TypeId} (hc : F.get c = some (.clo f fs cs)) (hxs : opds F xs.toList = some vs) (hf : fnOk P f = true)
    (hK : ACalls P f (fs ++ vs ++ cs) H (fun v H' => AOps P n ops rest (F.put dst v) H' K)) : AOps P n ops (⟨dst, .call { callee := .value (.tmp c), args := xs, argTypes := at_ }, ty, pos, af, none⟩ :: rest) F H K := AOps_cons (op_call_clo (c := .tmp c) hd hc hf hxs hK)
theorem s_index (tk : TTok tt P) {t : TypeId} {x i : Operand} {xs : List (List AVal)} {o : Own} {k : IntKind} {q : Int} {e es eb : Nat} {c : List AVal} (hd : dstOk n dst = true) (hx : opd F x = some (.sl xs o)) (hi : opd F i = some (.sc (.int k q)))
    (ht : find tt.slc t = some (e, es, eb)) (h0 : 0 ≤ q) (hc : xs[q.toNat]? = some c) (hl : c.length = es) (hK : AOps P n ops rest (F.put dst (.ept c 0)) H K) : AOps P n ops (⟨dst, .indexAddr t x i, ty, pos, af, none⟩ :: rest) F H K :=
  AOps_cons (op_of_pures (pures_index_sl tk hx hi ht h0 hc hl) hd hK)
theorem s_indexa (tk : TTok tt P) {t : TypeId} {x i : Operand} {b off : Nat} {k : IntKind} {q : Int} {m e es : Nat} {ag : Bool} (hd : dstOk n dst = true) (hx : opd F x = some (.ptr b off)) (hi : opd F i = some (.sc (.int k q)))
    (ht : find tt.arr t = some (m, e)) (hs : find tt.size e = some (es, ag)) (h0 : 0 ≤ q) (h1 : q < m) (hK : AOps P n ops rest (F.put dst (.ptr b (off + q.toNat * es))) H K) : AOps P n ops (⟨dst, .indexAddr t x i, ty, pos, af, none⟩ :: rest) F H K :=
  AOps_cons (op_of_pures (pures_index_arr tk hx hi ht hs h0 h1) hd hK)
theorem s_indexr (tk : TTok tt P) {t : TypeId} {x i : Operand} {b off m cap : Nat} {k : IntKind} {q : Int} {e es eb : Nat} (hd : dstOk n dst = true) (hx : opd F x = some (.row b off m cap)) (hi : opd F i = some (.sc (.int k q)))
    (ht : find tt.slc t = some (e, es, eb)) (h0 : 0 ≤ q) (h1 : q < m) (hK : AOps P n ops rest (F.put dst (.ptr b (off + q.toNat * es))) H K) : AOps P n ops (⟨dst, .indexAddr t x i, ty, pos, af, none⟩ :: rest) F H K :=
  AOps_cons (op_of_pures (pures_index_row tk hx hi ht h0 h1) hd hK)
theorem s_indexs (tk : TTok tt P) {t : TypeId} {x i : Operand} {s : ByteArray} {k : IntKind} {q : Int} {u : Unit} {c : UInt8} (hd : dstOk n dst = true) (hx : opd F x = some (.sc (.string s))) (hi : opd F i = some (.sc (.int k q))) (ht : find tt.strs t = some u)
    (h0 : 0 ≤ q) (hc : s.data.toList[q.toNat]? = some c) (hK : AOps P n ops rest (F.put dst (.sc (.int .u8 c.toNat))) H K) : AOps P n ops (⟨dst, .index t x i, ty, pos, af, none⟩ :: rest) F H K :=
  AOps_cons (op_of_pures (pures_index_str tk hx hi ht h0 hc) hd hK)
theorem s_slices (tk : TTok tt P) {t : TypeId} {x : Operand} {lo hi : Option Operand} {s : ByteArray} {l h : Int} {u : Unit} (hd : dstOk n dst = true) (hx : opd F x = some (.sc (.string s))) (ht : find tt.strs t = some u)
    (hl : bnd F 0 lo = some l) (hh : bnd F s.size hi = some h) (h0 : 0 ≤ l) (h1 : l ≤ h) (h2 : h ≤ s.size) (hK : AOps P n ops rest (F.put dst (.sc (.string (s.extract l.toNat h.toNat)))) H K) : AOps P n ops (⟨dst, .slice t x lo hi none, ty, pos, af, none⟩ :: rest) F H K :=
  AOps_cons (op_of_pures (pures_slice_str tk hx ht hl hh h0 h1 h2) hd hK)
theorem s_slice (tk : TTok tt P) {t : TypeId} {x : Operand} {lo hi : Option Operand} {xs : List (List AVal)} {o : Own} {e es eb : Nat} {l h : Int} (hd : dstOk n dst = true) (hx : opd F x = some (.sl xs o)) (ht : find tt.slc t = some (e, es, eb)) (hu' : Uni es xs)
    (hl : bnd F 0 lo = some l) (hh : bnd F xs.length hi = some h) (h0 : 0 ≤ l) (h1 : l ≤ h) (h2 : h ≤ xs.length) (hK : AOps P n ops rest (F.put dst (.sl ((xs.take h.toNat).drop l.toNat) .no)) H K) : AOps P n ops (⟨dst, .slice t x lo hi none, ty, pos, af, none⟩ :: rest) F H K :=
  AOps_cons (op_of_pures (pures_slice_sl tk hx ht hu' hl hh h0 h1 h2) hd hK)
theorem s_slicef (tk : TTok tt P) {t : TypeId} {x hi mx : Operand} {xs : List (List AVal)} {o : Own} {e es eb : Nat} {j k : IntKind} (hd : dstOk n dst = true) (hx : opd F x = some (.sl xs o)) (ht : find tt.slc t = some (e, es, eb)) (hu' : Uni es xs)
    (hh : opd F hi = some (.sc (.int j xs.length))) (hm : opd F mx = some (.sc (.int k xs.length))) (hK : AOps P n ops rest (F.put dst (.sl xs .full)) H K) : AOps P n ops (⟨dst, .slice t x none (some hi) (some mx), ty, pos, af, none⟩ :: rest) F H K :=
  AOps_cons (op_of_pures (pures_slice_full tk hx ht hu' hh hm) hd hK)
theorem s_build (tk : TTok tt P) {t : TypeId} {parts : Array (Nat × Operand)} {fs : List (Nat × Nat)} {zs : List Value} {cs out : List AVal} {r : List (Nat × AVal)} (hd : dstOk n dst = true) (hfs : find tt.flds t = some fs) (hz : find tt.zero t = some zs) (hc : absL zs = some cs)
    (hr : partsA F parts.toList = some r) (ho : fillA tt fs cs r = some out) (hK : AOps P n ops rest (F.put dst (.agg out)) H K) : AOps P n ops (⟨dst, .build t parts, ty, pos, af, none⟩ :: rest) F H K :=
  AOps_cons (op_of_pures (pures_build tk hfs hz hc hr ho) hd hK)
theorem s_append (tk : TTok tt P) (hd : dstOk n dst = true) {t t2 : TypeId} {x y : Operand} {xs ys : List (List AVal)} {o o2 : Own} {e es eb : Nat} {e2 : Nat × Nat × Nat} (hx : opd F x = some (.sl xs o)) (hy : opd F y = some (.sl ys o2))
    (ht : find tt.slc t = some (e, es, eb)) (ht2 : find tt.slc t2 = some e2) (hux : Uni es xs) (huy : Uni es ys) (hfl : flatA ys.flatten = true) (hown : Owned H o) (hoe : ownEs es o) (hlen : (xs.length + ys.length) * eb ≤ 140737488355328)
    (hK : ∀ o', Apart (H.free o) o' → ownEs es o' → AOps P n ops rest (F.put dst (.sl (xs ++ ys) o')) ((H.free o).own o') K) :
    AOps P n ops (⟨dst, .call { callee := .builtin .append, args := #[x, y], argTypes := #[t, t2] }, ty, pos, af, none⟩ :: rest) F H K := AOps_cons (op_append tk hd hx hy ht ht2 hux huy hfl hown hoe hlen hK)
end
end Abs
end Go.Proofs.Ytmokoofibnoojaa
