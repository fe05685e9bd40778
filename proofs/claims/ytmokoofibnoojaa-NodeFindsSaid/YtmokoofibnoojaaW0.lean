import Derived.Test.YtmokoofibnoojaaA7
import Derived.Test.YtmokoofibnoojaaTy
set_option linter.unusedVariables false
namespace Go.Proofs.Ytmokoofibnoojaa
namespace Abs
/-! ### The walk's steps at this program, by short names -/
section
variable {P : Program} {n : Nat} {ops : Array Oper} {rest : List Oper} {F : Fr} {H : AHeap} {dst : Option Tmp} {ty : TypeId} {pos : String} {af : Array Edge} {K : APost} {Q : AQ}

theorem w1 {op : Op} {v : AVal} (hd : dstOk n dst = true) (h : pev ttab F op = some v) (hK : AOps Try.prog n ops rest (F.put dst v) H K) : AOps Try.prog n ops (⟨dst, op, ty, pos, af, none⟩ :: rest) F H K := s_pure tk hd h hK
theorem w2 {op : Op} {jw : Nat × Bool} (hg : gval ops F (some jw) = some true) (h : AOps P n ops (⟨dst, op, ty, pos, af, none⟩ :: rest) F H K) : AOps P n ops (⟨dst, op, ty, pos, af, some jw⟩ :: rest) F H K := s_yes hg h
theorem w3 {op : Op} {jw : Nat × Bool} (hd : dstOk n dst = true) (hg : gval ops F (some jw) = some false) (h : AOps P n ops rest (F.put dst (.tup [])) H K) : AOps P n ops (⟨dst, op, ty, pos, af, some jw⟩ :: rest) F H K := s_no hd hg h
theorem w4 (h : K F H) : AOps P n ops [] F H K := AOps_nil h
theorem w5 (h : K F H) : thenQ K Q .normal F H := h
theorem w6 {x y : Code} (h : AW P n x F H (thenQ (fun F' H' => AW P n y F' H' Q) Q)) : AW P n (.seq x y) F H Q := aw_seq h
theorem w7 {id : Nat} {l : List Oper} (h : AOps P n l.toArray l F H (fun F' H' => Q .normal F' H')) : AW P n (.region id l.toArray false) F H Q := aw_region h
theorem w8 {c : Operand} {x y : Code} (hc : opd F c = some (.sc (.bool true))) (h : AW P n x F H Q) : AW P n (.cond c x y) F H Q := aw_cond hc (fun _ => h) (fun e => by cases e)
theorem w9 {c : Operand} {x y : Code} (hc : opd F c = some (.sc (.bool false))) (h : AW P n y F H Q) : AW P n (.cond c x y) F H Q := aw_cond hc (fun e => by cases e) (fun _ => h)
theorem wa (h : Q .normal F H) : AW P n .skip F H Q := aw_skip h
theorem wb {id : Nat} {c : Code} (h : AW P n c F H (inBlk id Q)) : AW P n (.block id c) F H Q := aw_block h
theorem wc {id : Nat} (h : Q (.exit id) F H) : AW P n (.exit id) F H Q := aw_exit h
theorem wd (h : Q .ret F H) : AW P n .ret F H Q := aw_ret h
theorem we (h : Q .ret F H) : thenQ K Q .ret F H := h
theorem wf {id : Nat} (h : Q (.exit id) F H) : thenQ K Q (.exit id) F H := h
theorem wg {id : Nat} (h : Q .normal F H) : inBlk id Q .normal F H := h
theorem wh {id : Nat} (h : Q .normal F H) : inBlk id Q (.exit id) F H := by simp only [inBlk, if_true]; exact h
theorem wi {id id' : Nat} (hn : Nat.beq id' id = false) (h : Q (.exit id') F H) : inBlk id Q (.exit id') F H := by
  have : ¬ id' = id := fun e => by rw [e, Nat.beq_refl] at hn; cases hn
  simp only [inBlk, if_neg this]; exact h
theorem wj {id : Nat} (h : Q .ret F H) : inBlk id Q .ret F H := h
theorem wk {c : Code} (h : AW P n c F H (noGoto Q)) : AW P n (.scope c) F H Q := aw_scope h
theorem wl (h : Q .normal F H) : noGoto Q .normal F H := h
theorem wm (h : Q .ret F H) : noGoto Q .ret F H := h
theorem wn {id : Nat} (h : Q (.exit id) F H) : noGoto Q (.exit id) F H := h

/-! ### the end -/
section
variable {fn : Func} {R : AVal → AHeap → Prop} {H' : AHeap}
theorem rt0 (hr : fn.results = #[]) (hs : H'.sub H) (hK : R (.tup []) H') : retQ P fn n R .ret F H := ⟨_, res0 hr, _, _, .refl _, hs, hK⟩
theorem rt0n (hr : fn.results = #[]) (hs : H'.sub H) (hK : R (.tup []) H') : retQ P fn n R .normal F H := ⟨_, res0 hr, _, _, .refl _, hs, hK⟩
theorem rt1 {t : Tmp} {v v' : AVal} (hr : fn.results = #[.tmp t]) (hv : F.get t = some v) (hw : Wk v v') (hs : H'.sub H) (hK : R v' H') : retQ P fn n R .ret F H := ⟨_, res1 hr (rvar_tmp hv), _, _, hw, hs, hK⟩
theorem rt1c {p : Tmp} {t : TypeId} {b k : Nat} {cs : List AVal} {v' : AVal} (hr : fn.results = #[.cell p t]) (hp : F.get p = some (.ptr b 0)) (hH : Rd H b cs) (ht : find ttab.size t = some (k, true)) (hl : cs.length = k) (hw : Wk (.agg cs) v') (hs : H'.sub H) (hK : R v' H') :
    retQ Try.prog fn n R .ret F H := ⟨_, res1 hr (rvar_agg tk hp hH ht hl), _, _, hw, hs, hK⟩
theorem rt2 {t u : Tmp} {v1 v2 v1' v2' : AVal} (hr : fn.results = #[.tmp t, .tmp u]) (h1 : F.get t = some v1) (h2 : F.get u = some v2) (hw : Wk (.tup [v1, v2]) (.tup [v1', v2'])) (hs : H'.sub H) (hK : R (.tup [v1', v2']) H') : retQ P fn n R .ret F H :=
  ⟨_, res2 hr (rvar_tmp h1) (rvar_tmp h2), _, _, hw, hs, hK⟩
theorem rt2c {p u : Tmp} {t : TypeId} {b k : Nat} {cs : List AVal} {v2 v1' v2' : AVal} (hr : fn.results = #[.cell p t, .tmp u]) (hp : F.get p = some (.ptr b 0)) (hH : Rd H b cs) (ht : find ttab.size t = some (k, true)) (hl : cs.length = k) (h2 : F.get u = some v2)
    (hw : Wk (.tup [.agg cs, v2]) (.tup [v1', v2'])) (hs : H'.sub H) (hK : R (.tup [v1', v2']) H') : retQ Try.prog fn n R .ret F H := ⟨_, res2 hr (rvar_agg tk hp hH ht hl) (rvar_tmp h2), _, _, hw, hs, hK⟩
end
end

theorem Wk.pair {a b a' b' : AVal} (h1 : Wk a a') (h2 : Wk b b') : Wk (.tup [a, b]) (.tup [a', b']) := .tup rfl (fun j h h' => match j with | 0 => h1 | 1 => h2)
theorem Wk.nil : Wk (.agg []) (.agg []) := .refl _
theorem Wk.cons {a b : AVal} {xs ys : List AVal} (h : Wk a b) (k : Wk (.agg xs) (.agg ys)) : Wk (.agg (a :: xs)) (.agg (b :: ys)) := by
  cases k with
  | refl => exact .agg rfl (fun j h1 h2 => by cases j with | zero => exact h | succ j => exact .refl _)
  | agg hl k => exact .agg (by simp [hl]) (fun j h1 h2 => by cases j with | zero => exact h | succ j => exact k j (by simpa using h1) (by simpa using h2))
/-- A block that nobody knew of is forgotten. -/
theorem sub_new {H H' : AHeap} {b : Nat} {o : HObj} (hb : H b = none) (h : H.sub H') : H.sub (H'.put b o) := AHeap.sub_put h o hb
theorem ne_of_get {H : AHeap} {b t : Nat} {o : HObj} (hb : H b = none) (ht : H t = some o) : t ≠ b := fun e => by rw [e, hb] at ht; cases ht
theorem put_none {H : AHeap} {b c : Nat} {o : HObj} (h : H.put b o c = none) : c ≠ b ∧ H c = none := by
  unfold AHeap.put at h
  split at h
  · cases h
  · rename_i hn; exact ⟨hn, h⟩
end Abs
end Go.Proofs.Ytmokoofibnoojaa
