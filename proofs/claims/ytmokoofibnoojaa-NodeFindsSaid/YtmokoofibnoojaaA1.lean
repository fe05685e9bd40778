import Derived.Test.YtmokoofibnoojaaA0
import Derived.LoopN
import Derived.Scope
set_option linter.unusedVariables false
namespace Go.Proofs.Ytmokoofibnoojaa
namespace Abs
open Go.RowKit

/-! ### What the machine does, seen from the abstract state -/
abbrev APost := Fr → AHeap → Prop
abbrev AQ := Exit → Fr → AHeap → Prop

def AOp (P : Program) (n : Nat) (ops : Array Oper) (o : Oper) (F : Fr) (H : AHeap) (K : APost) : Prop :=
  ∀ g a w (Q : Exit → Act → World → Prop) (Kc : Act → World → Prop), Inv g w H → FR g w n F a →
    (∀ g' a' w' F' H', Ext g w g' w' → Inv g' w' H' → FR g' w' n F' a' → K F' H' → Kc a' w') →
    if Region.wanted o (yielded ops a.tmps) then o.wp P a w Kc Q ∨ (o.asks P a w ∧ LetsOut Q) else Kc (a.put o.dst undef) w

def AOps (P : Program) (n : Nat) (ops : Array Oper) (l : List Oper) (F : Fr) (H : AHeap) (K : APost) : Prop :=
  ∀ g a w (Q : Exit → Act → World → Prop), Inv g w H → FR g w n F a →
    (∀ g' a' w' F' H', Ext g w g' w' → Inv g' w' H' → FR g' w' n F' a' → K F' H' → Q .normal a' w') → wpList P ops Q l a w

def AW (P : Program) (n : Nat) (c : Code) (F : Fr) (H : AHeap) (Q : AQ) : Prop :=
  ∀ g a w (Qc : Exit → Act → World → Prop), Inv g w H → FR g w n F a →
    (∀ e g' a' w' F' H', Ext g w g' w' → Inv g' w' H' → FR g' w' n F' a' → Q e F' H' → Qc e a' w') → c.wp P Qc a w

def ACalls (P : Program) (f : FuncId) (args : List AVal) (H : AHeap) (K : AVal → AHeap → Prop) : Prop :=
  ∀ g w (cargs : Array Value), Inv g w H → args.length = cargs.size → (∀ j (h : j < args.length) (h' : j < cargs.size), VR g w args[j] cargs[j]) →
    Calls P f cargs w (fun e w' => ∃ cv g' v H', e = .returned cv ∧ Ext g w g' w' ∧ Inv g' w' H' ∧ VR g' w' v cv ∧ K v H')

section
variable {P : Program} {n : Nat} {ops : Array Oper} {F F' : Fr} {H H' : AHeap}

theorem AOps_nil {K : APost} (h : K F H) : AOps P n ops [] F H K := fun g a w Q hi hf hk => hk g a w F H (Ext.refl _ _) hi hf h
theorem AOps_cons {o : Oper} {rest : List Oper} {K : APost} (h : AOp P n ops o F H (fun F' H' => AOps P n ops rest F' H' K)) : AOps P n ops (o :: rest) F H K := fun g a w Q hi hf hk =>
  h g a w Q (wpList P ops Q rest) hi hf fun g1 a1 w1 F1 H1 e1 i1 f1 k1 => k1 g1 a1 w1 Q i1 f1 fun g2 a2 w2 F2 H2 e2 i2 f2 k2 => hk g2 a2 w2 F2 H2 (e1.trans e2) i2 f2 k2
theorem AOps_sub {l : List Oper} {K : APost} (h : AOps P n ops l F H K) (hF : F.sub F') (hH : H.sub H') : AOps P n ops l F' H' K :=
  fun g a w Q hi hf hk => h g a w Q (hi.sub hH) (hf.sub hF) hk
theorem AOps_mono {l : List Oper} {K K' : APost} (h : AOps P n ops l F H K) (hk : ∀ F H, K F H → K' F H) : AOps P n ops l F H K' :=
  fun g a w Q hi hf hk' => h g a w Q hi hf fun g1 a1 w1 F1 H1 e1 i1 f1 k1 => hk' g1 a1 w1 F1 H1 e1 i1 f1 (hk _ _ k1)
theorem AOp_mono {o : Oper} {K K' : APost} (h : AOp P n ops o F H K) (hk : ∀ F H, K F H → K' F H) : AOp P n ops o F H K' :=
  fun g a w Q Kc hi hf hk' => h g a w Q Kc hi hf fun g1 a1 w1 F1 H1 e1 i1 f1 k1 => hk' g1 a1 w1 F1 H1 e1 i1 f1 (hk _ _ k1)
theorem AOp_sub {o : Oper} {K : APost} (h : AOp P n ops o F H K) (hF : F.sub F') (hH : H.sub H') : AOp P n ops o F' H' K :=
  fun g a w Q Kc hi hf hk => h g a w Q Kc (hi.sub hH) (hf.sub hF) hk

theorem AW_mono {c : Code} {Q Q' : AQ} (h : AW P n c F H Q) (hq : ∀ e F H, Q e F H → Q' e F H) : AW P n c F H Q' :=
  fun g a w Qc hi hf hk => h g a w Qc hi hf fun e g1 a1 w1 F1 H1 e1 i1 f1 k1 => hk e g1 a1 w1 F1 H1 e1 i1 f1 (hq _ _ _ k1)
theorem AW_sub {c : Code} {Q : AQ} (h : AW P n c F H Q) (hF : F.sub F') (hH : H.sub H') : AW P n c F' H' Q :=
  fun g a w Qc hi hf hk => h g a w Qc (hi.sub hH) (hf.sub hF) hk

def thenQ (K : APost) (Q : AQ) : AQ
  | .normal, F, H => K F H
  | e, F, H => Q e F H
def inBlk (id : Nat) (Q : AQ) : AQ
  | .exit id', F, H => if id' = id then Q .normal F H else Q (.exit id') F H
  | e, F, H => Q e F H
def noGoto (Q : AQ) : AQ
  | .goto _, _, _ => False
  | e, F, H => Q e F H

theorem aw_seq {x y : Code} {Q : AQ} (h : AW P n x F H (thenQ (fun F' H' => AW P n y F' H' Q) Q)) : AW P n (.seq x y) F H Q := fun g a w Qc hi hf hk =>
  wp_seq (h g a w _ hi hf fun e g1 a1 w1 F1 H1 e1 i1 f1 k1 => by
    cases e with
    | normal => exact k1 g1 a1 w1 Qc i1 f1 fun e g2 a2 w2 F2 H2 e2 i2 f2 k2 => hk e g2 a2 w2 F2 H2 (e1.trans e2) i2 f2 k2
    | exit id => exact hk _ g1 a1 w1 F1 H1 e1 i1 f1 k1
    | goto l => exact hk _ g1 a1 w1 F1 H1 e1 i1 f1 k1
    | ret => exact hk _ g1 a1 w1 F1 H1 e1 i1 f1 k1
    | panic ch => exact hk _ g1 a1 w1 F1 H1 e1 i1 f1 k1
    | outgrown => exact hk _ g1 a1 w1 F1 H1 e1 i1 f1 k1)
/-- The code behind stays out of sight. -/
theorem aw_seq_k {x y : Code} {Q : AQ} (h : ∀ K : APost, (∀ F H, AW P n y F H Q → K F H) → AW P n x F H (thenQ K Q)) : AW P n (.seq x y) F H Q := aw_seq (h _ fun _ _ h => h)
theorem aw_skip {Q : AQ} (h : Q .normal F H) : AW P n .skip F H Q := fun g a w Qc hi hf hk => wp_skip (hk _ g a w F H (Ext.refl _ _) hi hf h)
theorem aw_label {l : Nat} {Q : AQ} (h : Q .normal F H) : AW P n (.label l) F H Q := fun g a w Qc hi hf hk => wp_label (hk _ g a w F H (Ext.refl _ _) hi hf h)
theorem aw_exit {id : Nat} {Q : AQ} (h : Q (.exit id) F H) : AW P n (.exit id) F H Q := fun g a w Qc hi hf hk => wp_exit (hk _ g a w F H (Ext.refl _ _) hi hf h)
theorem aw_ret {Q : AQ} (h : Q .ret F H) : AW P n .ret F H Q := fun g a w Qc hi hf hk => wp_ret (hk _ g a w F H (Ext.refl _ _) hi hf h)
theorem aw_block {id : Nat} {c : Code} {Q : AQ} (h : AW P n c F H (inBlk id Q)) : AW P n (.block id c) F H Q := fun g a w Qc hi hf hk =>
  wp_block (h g a w _ hi hf fun e g1 a1 w1 F1 H1 e1 i1 f1 k1 => by
    cases e with
    | normal => exact hk _ g1 a1 w1 F1 H1 e1 i1 f1 k1
    | exit id' =>
      simp only [inBlk] at k1
      simp only [Exit.inBlock]
      split
      · rename_i he; rw [if_pos he] at k1; exact hk _ g1 a1 w1 F1 H1 e1 i1 f1 k1
      · rename_i he; rw [if_neg he] at k1; exact hk _ g1 a1 w1 F1 H1 e1 i1 f1 k1
    | goto l => exact hk _ g1 a1 w1 F1 H1 e1 i1 f1 k1
    | ret => exact hk _ g1 a1 w1 F1 H1 e1 i1 f1 k1
    | panic ch => exact hk _ g1 a1 w1 F1 H1 e1 i1 f1 k1
    | outgrown => exact hk _ g1 a1 w1 F1 H1 e1 i1 f1 k1)
theorem aw_region {id : Nat} {l : List Oper} {Q : AQ} (h : AOps P n l.toArray l F H (fun F' H' => Q .normal F' H')) : AW P n (.region id l.toArray false) F H Q := fun g a w Qc hi hf hk =>
  wp_region_lit (h g a w _ hi hf fun g1 a1 w1 F1 H1 e1 i1 f1 k1 => hk _ g1 a1 w1 F1 H1 e1 i1 f1 k1)

/-- A loop: s is what a round begins with. -/
theorem aw_loop {σ : Type} {c : Code} {Q : AQ} (I : σ → Prop) (fr : σ → Fr) (hp : σ → AHeap) (m : σ → Nat) (s0 : σ) (hI : I s0) (hF : (fr s0).sub F) (hH : (hp s0).sub H)
    (round : ∀ s, I s → AW P n c (fr s) (hp s) (thenQ (fun F' H' => ∃ s', I s' ∧ m s' < m s ∧ (fr s').sub F' ∧ (hp s').sub H') Q)) : AW P n (.loop c) F H Q := fun g a w Qc hi hf hk => by
  have key : ∀ k, ∀ g' a' w' s, m s ≤ k → Ext g w g' w' → I s → Inv g' w' (hp s) → FR g' w' n (fr s) a' → Code.rounds P c Qc (k + 1) a' w' := by
    intro k
    induction k with
    | zero =>
      intro g' a' w' s hm he hs hi' hf'
      rw [rounds_succ]
      refine round s hs g' a' w' _ hi' hf' (fun e g1 a1 w1 F1 H1 e1 i1 f1 k1 => ?_)
      cases e with
      | normal => obtain ⟨s', hs', hlt, _⟩ := k1; omega
      | exit id => exact hk _ g1 a1 w1 F1 H1 (he.trans e1) i1 f1 k1
      | goto l => exact hk _ g1 a1 w1 F1 H1 (he.trans e1) i1 f1 k1
      | ret => exact hk _ g1 a1 w1 F1 H1 (he.trans e1) i1 f1 k1
      | panic ch => exact hk _ g1 a1 w1 F1 H1 (he.trans e1) i1 f1 k1
      | outgrown => exact hk _ g1 a1 w1 F1 H1 (he.trans e1) i1 f1 k1
    | succ k ih =>
      intro g' a' w' s hm he hs hi' hf'
      rw [rounds_succ]
      refine round s hs g' a' w' _ hi' hf' (fun e g1 a1 w1 F1 H1 e1 i1 f1 k1 => ?_)
      cases e with
      | normal =>
        obtain ⟨s', hs', hlt, hF', hH'⟩ := k1
        exact ih g1 a1 w1 s' (by omega) (he.trans e1) hs' (i1.sub hH') (f1.sub hF')
      | exit id => exact hk _ g1 a1 w1 F1 H1 (he.trans e1) i1 f1 k1
      | goto l => exact hk _ g1 a1 w1 F1 H1 (he.trans e1) i1 f1 k1
      | ret => exact hk _ g1 a1 w1 F1 H1 (he.trans e1) i1 f1 k1
      | panic ch => exact hk _ g1 a1 w1 F1 H1 (he.trans e1) i1 f1 k1
      | outgrown => exact hk _ g1 a1 w1 F1 H1 (he.trans e1) i1 f1 k1
  exact wp_loop_rounds (m s0 + 1) (key (m s0) g a w s0 (Nat.le_refl _) (Ext.refl _ _) hI (hi.sub hH) (hf.sub hF))

theorem aw_scope {c : Code} {Q : AQ} (h : AW P n c F H (noGoto Q)) : AW P n (.scope c) F H Q := fun g a w Qc hi hf hk =>
  wp_scope_straight (h g a w _ hi hf fun e g1 a1 w1 F1 H1 e1 i1 f1 k1 => by
    cases e with
    | normal => exact hk _ g1 a1 w1 F1 H1 e1 i1 f1 k1
    | exit id => exact hk _ g1 a1 w1 F1 H1 e1 i1 f1 k1
    | goto l => exact k1.elim
    | ret => exact hk _ g1 a1 w1 F1 H1 e1 i1 f1 k1
    | panic ch => exact hk _ g1 a1 w1 F1 H1 e1 i1 f1 k1
    | outgrown => exact hk _ g1 a1 w1 F1 H1 e1 i1 f1 k1)

/-! ### Operands -/
def plainB : Value → Bool
  | .bool _ | .int _ _ | .float _ _ | .complex _ _ _ | .string _ | .pointer none | .map none | .chan none | .nilFunc | .nilIface => true
  | _ => false
theorem plain_of_B {v : Value} (h : plainB v = true) : Plain v := by
  cases v <;> first | trivial | (cases h) | skip
  case pointer a => cases a <;> first | trivial | cases h
  case map a => cases a <;> first | trivial | cases h
  case chan a => cases a <;> first | trivial | cases h
def absS : Value → Option AVal
  | .slice none 0 0 => some (.sl [] .full)
  | v => bif plainB v then some (.sc v) else none
def absL : List Value → Option (List AVal)
  | [] => some []
  | v :: vs => match absS v, absL vs with | some x, some xs => some (x :: xs) | _, _ => none
def absV : Value → Option AVal
  | .agg cs => (absL cs.toList).map .agg
  | v => absS v
theorem absS_ok {g : Ghost} {w : World} {v : Value} {x : AVal} (h : absS v = some x) : VR g w x v := by
  unfold absS at h
  split at h
  · cases h; exact .nil
  · cases hp : plainB v with
    | true => rw [hp] at h; cases h; exact .sc (plain_of_B hp)
    | false => rw [hp] at h; cases h
theorem absL_ok {g : Ghost} {w : World} : ∀ {vs : List Value} {xs : List AVal}, absL vs = some xs → xs.length = vs.length ∧ ∀ j (h : j < xs.length) (h' : j < vs.length), VR g w xs[j] vs[j]
  | [], xs, h => by cases h; exact ⟨rfl, fun j h => absurd h (Nat.not_lt_zero _)⟩
  | v :: vs, xs, h => by
    simp only [absL] at h
    split at h
    · rename_i x ys hx hy
      cases h
      obtain ⟨h1, h2⟩ := absL_ok (g := g) (w := w) hy
      refine ⟨by simp [h1], fun j hj hj' => ?_⟩
      cases j with
      | zero => exact absS_ok hx
      | succ j => exact h2 j (by simpa using hj) (by simpa using hj')
    · cases h
theorem absV_ok {g : Ghost} {w : World} {v : Value} {x : AVal} (h : absV v = some x) : VR g w x v := by
  unfold absV at h
  split at h
  · rename_i cs
    cases hl : absL cs.toList with
    | none => rw [hl] at h; cases h
    | some xs =>
      rw [hl] at h; cases h
      obtain ⟨h1, h2⟩ := absL_ok (g := g) (w := w) hl
      exact .agg (by simpa using h1) (fun j hj hj' => by have := h2 j hj (by simpa using hj'); simpa using this)
  · exact absS_ok h

def opd (F : Fr) : Operand → Option AVal
  | .tmp t => F.get t
  | .const v => absV v
  | .func f => some (.clo f [] [])
  | .global _ => none

theorem FR.opd {g : Ghost} {w : World} {n : Nat} {F : Fr} {a : Act} (k : FR g w n F a) {x : Operand} {v : AVal} (h : opd F x = some v) : VR g w v (a.eval x) := by
  cases x with
  | tmp t =>
    obtain ⟨cv, h1, h2⟩ := k.slot t v h
    have : a.eval (.tmp t) = cv := by simp [Act.eval, h1]
    rw [this]; exact h2
  | const c => exact absV_ok h
  | global i => cases h
  | func f => cases h; exact .clo rfl rfl (fun j h => absurd h (Nat.not_lt_zero _)) (fun j h => absurd h (Nat.not_lt_zero _))

def opds (F : Fr) : List Operand → Option (List AVal)
  | [] => some []
  | x :: xs => match opd F x, opds F xs with | some v, some vs => some (v :: vs) | _, _ => none
theorem FR.opds {g : Ghost} {w : World} {n : Nat} {F : Fr} {a : Act} (k : FR g w n F a) : ∀ {xs : List Operand} {vs : List AVal}, opds F xs = some vs →
    vs.length = xs.length ∧ ∀ j (h : j < vs.length) (h' : j < xs.length), VR g w vs[j] (a.eval xs[j])
  | [], vs, h => by cases h; exact ⟨rfl, fun j h => absurd h (Nat.not_lt_zero _)⟩
  | x :: xs, vs, h => by
    simp only [Abs.opds] at h
    split at h
    · rename_i u us hx hy
      cases h
      obtain ⟨h1, h2⟩ := FR.opds k hy
      refine ⟨by simp [h1], fun j hj hj' => ?_⟩
      cases j with
      | zero => exact k.opd hx
      | succ j => exact h2 j (by simpa using hj) (by simpa using hj')
    · cases h

/-! ### Branches -/
theorem aw_cond {c : Operand} {x y : Code} {Q : AQ} {t : Bool} (hc : opd F c = some (.sc (.bool t))) (hx : t = true → AW P n x F H Q) (hy : t = false → AW P n y F H Q) : AW P n (.cond c x y) F H Q :=
  fun g a w Qc hi hf hk => by
    have he : a.eval c = .bool t := by
      have hv := hf.opd hc
      generalize a.eval c = cv at hv ⊢
      cases hv with | sc _ => rfl
    cases t with
    | true => exact wp_cond_true he (hx rfl g a w Qc hi hf hk)
    | false => exact wp_cond_false he (hy rfl g a w Qc hi hf hk)

/-! ### Operations under no guard -/
def dstOk (n : Nat) : Option Tmp → Bool
  | some d => Nat.blt d n
  | none => true
theorem dstOk_lt {n : Nat} {dst : Option Tmp} (h : dstOk n dst = true) : ∀ d, dst = some d → d < n := fun d hd => by
  subst hd
  simpa [dstOk, Nat.blt_eq] using h

/-- What an operation that touches no memory leaves in its slot. -/
def Pures (P : Program) (n : Nat) (o : Oper) (F : Fr) (v : AVal) : Prop :=
  ∀ g a w, FR g w n F a → ∃ cv, (∀ w', (execOp a.eval o).run P w' = .ok (.value cv) w') ∧ VR g w v cv
/-- What an operation that reads leaves in its slot. -/
def Reads (P : Program) (n : Nat) (o : Oper) (F : Fr) (H : AHeap) (v : AVal) : Prop :=
  ∀ g a w, Inv g w H → FR g w n F a → ∃ cv, (execOp a.eval o).run P w = .ok (.value cv) w ∧ VR g w v cv
theorem Pures.reads {o : Oper} {v : AVal} (h : Pures P n o F v) : Reads P n o F H v := fun g a w hi hf => let ⟨cv, h1, h2⟩ := h g a w hf; ⟨cv, h1 w, h2⟩

theorem wanted_none {α : Prop} {β : Prop} {dst : Option Tmp} {op : Op} {ty : TypeId} {pos : String} {af : Array Edge} (y : Nat → Option Bool) :
    (if Region.wanted ⟨dst, op, ty, pos, af, none⟩ y = true then α else β) = α := if_pos rfl

theorem op_of_value {dst : Option Tmp} {op : Op} {ty : TypeId} {pos : String} {af : Array Edge} {K : APost} (hd : dstOk n dst = true)
    (h : ∀ g a w, Inv g w H → FR g w n F a → ∃ cv w' g' v H', (execOp a.eval ⟨dst, op, ty, pos, af, none⟩).run P w = .ok (.value cv) w' ∧ Ext g w g' w' ∧ Inv g' w' H' ∧ VR g' w' v cv ∧ K (F.put dst v) H') :
    AOp P n ops ⟨dst, op, ty, pos, af, none⟩ F H K := fun g a w Q Kc hi hf hk => by
  obtain ⟨cv, w', g', v, H', hr, he, hi', hv, hK⟩ := h g a w hi hf
  rw [wanted_none]
  refine .inl ?_
  unfold Oper.wp
  rw [hr, Oper.upon_value]
  exact hk g' _ w' _ H' he hi' ((hf.mono he).put (dstOk_lt hd) hv) hK

theorem op_of_skip {op : Op} {ty : TypeId} {pos : String} {af : Array Edge} {K : APost}
    (h : ∀ g a w, Inv g w H → FR g w n F a → ∃ w' g' H', (execOp a.eval ⟨none, op, ty, pos, af, none⟩).run P w = .ok .skip w' ∧ Ext g w g' w' ∧ Inv g' w' H' ∧ K F H') :
    AOp P n ops ⟨none, op, ty, pos, af, none⟩ F H K := fun g a w Q Kc hi hf hk => by
  obtain ⟨w', g', H', hr, he, hi', hK⟩ := h g a w hi hf
  rw [wanted_none]
  refine .inl ?_
  unfold Oper.wp
  rw [hr, Oper.upon_skip]
  exact hk g' _ w' _ H' he hi' (hf.mono he) hK

theorem op_of_reads {dst : Option Tmp} {op : Op} {ty : TypeId} {pos : String} {af : Array Edge} {K : APost} {v : AVal} (hd : dstOk n dst = true)
    (h : Reads P n ⟨dst, op, ty, pos, af, none⟩ F H v) (hK : K (F.put dst v) H) : AOp P n ops ⟨dst, op, ty, pos, af, none⟩ F H K :=
  op_of_value hd fun g a w hi hf => let ⟨cv, h1, h2⟩ := h g a w hi hf; ⟨cv, w, g, v, H, h1, Ext.refl _ _, hi, h2, hK⟩

/-! ### Guards -/
/-- What a guard says, as far as the frame knows. -/
def gval (ops : Array Oper) (F : Fr) : Option (Nat × Bool) → Option Bool
  | none => some true
  | some (j, want) => match (ops[j]?).bind (·.dst) with
    | some d => match F.get d with
      | some (.sc (.bool b)) => some (b == want)
      | some (.tup []) => some false
      | _ => none
    | none => none
theorem wanted_of {g : Ghost} {w : World} {a : Act} (hf : FR g w n F a) {o : Oper} {b : Bool} (h : gval ops F o.guard = some b) : Region.wanted o (yielded ops a.tmps) = b := by
  unfold Region.wanted
  cases hg : o.guard with
  | none => rw [hg] at h; cases h; rfl
  | some jw =>
    obtain ⟨j, want⟩ := jw
    rw [hg] at h
    simp only [gval] at h
    cases hd : (ops[j]?).bind (·.dst) with
    | none => rw [hd] at h; cases h
    | some d =>
      rw [hd] at h
      simp only at h
      cases hx : F.get d with
      | none => rw [hx] at h; cases h
      | some u =>
        rw [hx] at h
        obtain ⟨cv, h1, h2⟩ := hf.slot d u hx
        have hy : yielded ops a.tmps j = (match cv with | .bool b => some b | _ => none) := by
          simp only [yielded, hd, Option.bind_some, h1]
          cases cv <;> rfl
        show (yielded ops a.tmps j == some want) = b
        rw [hy]
        split at h
        · rename_i b' he
          cases he
          cases h2 with
          | sc _ => cases h; rfl
        · rename_i he
          cases he
          cases h2 with
          | tup _ _ => cases h; rfl
        · cases h

theorem op_guard_yes {dst : Option Tmp} {op : Op} {ty : TypeId} {pos : String} {af : Array Edge} {gd : Option (Nat × Bool)} {K : APost} (hg : gval ops F gd = some true)
    (h : AOp P n ops ⟨dst, op, ty, pos, af, none⟩ F H K) : AOp P n ops ⟨dst, op, ty, pos, af, gd⟩ F H K := fun g a w Q Kc hi hf hk => by
  have hw := wanted_of hf (o := ⟨dst, op, ty, pos, af, gd⟩) hg
  have := h g a w Q Kc hi hf hk
  rw [wanted_none] at this
  rw [if_pos hw]
  exact this
theorem VR.undef {g : Ghost} {w : World} : VR g w (.tup []) undef := .tup rfl (fun j h => absurd h (Nat.not_lt_zero _))
theorem op_guard_no {dst : Option Tmp} {op : Op} {ty : TypeId} {pos : String} {af : Array Edge} {gd : Option (Nat × Bool)} {K : APost} (hd : dstOk n dst = true) (hg : gval ops F gd = some false)
    (h : K (F.put dst (.tup [])) H) : AOp P n ops ⟨dst, op, ty, pos, af, gd⟩ F H K := fun g a w Q Kc hi hf hk => by
  have hw := wanted_of hf (o := ⟨dst, op, ty, pos, af, gd⟩) hg
  rw [if_neg (by rw [hw]; simp)]
  exact hk g _ w _ H (Ext.refl _ _) hi (hf.put (dstOk_lt hd) VR.undef) h
/-- A bool that the guards ask for: in each case it is written out. -/
theorem AOps_split {l : List Oper} {K : APost} (d : Nat) (b : Bool) (hx : F.get d = some (.sc (.bool b))) (ht : b = true → AOps P n ops l ((d, .sc (.bool true)) :: F) H K) (hf : b = false → AOps P n ops l ((d, .sc (.bool false)) :: F) H K) :
    AOps P n ops l F H K := by
  cases b with
  | true => exact AOps_sub (ht rfl) (Fr.sub_cons hx (Fr.sub_refl _)) (AHeap.sub_refl _)
  | false => exact AOps_sub (hf rfl) (Fr.sub_cons hx (Fr.sub_refl _)) (AHeap.sub_refl _)
end
end Abs
end Go.Proofs.Ytmokoofibnoojaa
