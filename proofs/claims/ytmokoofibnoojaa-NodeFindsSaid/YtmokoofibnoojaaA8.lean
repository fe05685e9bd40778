import Derived.Test.YtmokoofibnoojaaA7
import Derived.OrdersHeld
set_option linter.unusedVariables false
namespace Go.Proofs.Ytmokoofibnoojaa
namespace Abs

/-! ### Statements whose order is open -/
def onlyN (Kc : Act → World → Prop) : Exit → Act → World → Prop
  | .normal, a, w => Kc a w
  | _, _, _ => False
def reach (g : Ghost) (w : World) : World → Prop := fun w' => ∃ g', Ext g w g' w'

def AAny (P : Program) (n : Nat) (ops : Array Oper) (fuel : Nat) (listed : Array Bool) (F : Fr) (H : AHeap) (K : APost) : Prop :=
  ∀ g a w (Kc : Act → World → Prop), Inv g w H → FR g w n F a →
    (∀ g' a' w' F' H', Ext g w g' w' → Inv g' w' H' → FR g' w' n F' a' → K F' H' → Kc a' w') → wpAnyH P .any ops (onlyN Kc) (reach g w) fuel listed a w

theorem wpAnyH_weak {P : Program} {md : Region.Mode} {ops : Array Oper} {Q : Exit → Act → World → Prop} {S S' : World → Prop} (h : ∀ w, S w → S' w) : ∀ (fuel : Nat) (listed : Array Bool) (a : Act) (w : World), wpAnyH P md ops Q S fuel listed a w → wpAnyH P md ops Q S' fuel listed a w
  | 0, _, _, _, k => k
  | fuel + 1, _, _, _, k => ⟨k.1, fun i hi => wpOp_mono (fun a' w' k' => ⟨h _ k'.1, wpAnyH_weak h fuel _ a' w' k'.2⟩) (k.2 i hi)⟩

/-- What an operation that reads what nobody writes leaves in its slot. -/
def Stab (P : Program) (n : Nat) (o : Oper) (F : Fr) (H : AHeap) (v : AVal) : Prop :=
  ∀ g a w, Inv g w H → FR g w n F a → ∃ cv, (∀ g' w', Ext g w g' w' → (execOp a.eval o).run P w' = .ok (.value cv) w') ∧ VR g w v cv

theorem Oper.wp_only {P : Program} {o : Oper} {a : Act} {w : World} {K : Act → World → Prop} {Q Q' : Exit → Act → World → Prop} (hp : ∀ c a w, ¬ Q (.panic c) a w) (ho : ∀ a w, ¬ Q .outgrown a w) (h : o.wp P a w K Q) : o.wp P a w K Q' := by
  unfold Oper.wp at *
  generalize (execOp a.eval o).run P w = r at *
  cases r with
  | ok x w' =>
    cases x <;> simp only [Oper.upon] at h ⊢ <;> first
      | exact h
      | exact Calls.mono h (fun e w'' he => by cases e <;> first | exact he | exact absurd he (hp _ _ _) | (obtain ⟨a0, w0, h0⟩ := he; exact absurd h0 (ho _ _)))
  | halt x w' => cases x <;> simp only [Oper.upon] at h ⊢ <;> exact absurd h (hp _ _ _)

section
variable {P : Program} {tt : TT} {n : Nat} {ops : Array Oper} {F : Fr} {H : AHeap} {dst : Option Tmp} {ty : TypeId} {pos : String} {af : Array Edge} {gd : Option (Nat × Bool)} {K : APost} {fuel : Nat} {listed : Array Bool}

theorem Pures.stab {o : Oper} {v : AVal} (h : Pures P n o F v) : Stab P n o F H v := fun g a w hi hf => let ⟨cv, h1, h2⟩ := h g a w hf; ⟨cv, fun g' w' _ => h1 w', h2⟩
theorem stab_ro_sc (tk : TTok tt P) {t : TypeId} {x : Operand} {b off k : Nat} {cs : List AVal} {v : AVal} (hx : opd F x = some (.ptr b off)) (hH : H b = some (.ro cs)) (ht : find tt.size t = some (k, false)) (hv : cs[off]? = some v) :
    Stab P n ⟨dst, .load t x, ty, pos, af, gd⟩ F H v := fun g a w hi hf => by
  have hp := (hf.opd hx).eq_ptr
  obtain ⟨i, d, hti, hk, hd, ha⟩ := tk.size ht
  obtain ⟨hbase, ⟨hlim, hpr⟩, _⟩ := hi.obj b _ hH
  obtain ⟨c, el, hb, hvs⟩ := (hi.obj b _ hH).2.vrs'
  obtain ⟨cv, h1, h2⟩ := hvs.get hv
  refine ⟨cv, fun g' w' he => ?_, h2⟩
  have hc : w'.cell? ⟨b, off, none⟩ = some cv := by rw [cell_of_row w' b off c el _ ((he.same b hpr).trans hb)]; simpa using h1
  simp [execOp, Instr.loadAt, Instr.sureAddr, hp, run_load_sc hd ha hc]
theorem stab_ro_agg (tk : TTok tt P) {t : TypeId} {x : Operand} {b off k : Nat} {cs ds : List AVal} (hx : opd F x = some (.ptr b off)) (hH : H b = some (.ro cs)) (ht : find tt.size t = some (k, true)) (hl : off + k ≤ cs.length) (hds : (cs.drop off).take k = ds) :
    Stab P n ⟨dst, .load t x, ty, pos, af, gd⟩ F H (.agg ds) := fun g a w hi hf => by
  subst hds
  have hp := (hf.opd hx).eq_ptr
  obtain ⟨i, d, hti, hk, hd, ha⟩ := tk.size ht
  obtain ⟨hbase, ⟨hlim, hpr⟩, _⟩ := hi.obj b _ hH
  obtain ⟨c, el, hb, hvs⟩ := (hi.obj b _ hH).2.vrs'
  have hvs' := (hvs.drop off).take k
  have hlen := hvs.1
  refine ⟨.agg ((c.toList.drop off).take k).toArray, fun g' w' he => ?_, .agg hvs'.to_arr.arr.1 hvs'.to_arr.arr.2⟩
  have hc : ∀ j v, ((c.toList.drop off).take k)[j]? = some v → w'.cell? ((⟨b, off, none⟩ : Addr).add j) = some v := fun j v hv => by
    rw [add_plain, cell_of_row w' b _ c el _ ((he.same b hpr).trans hb)]
    rw [List.getElem?_take] at hv
    split at hv
    · simpa using hv
    · cases hv
  have := run_load_agg hd ha hti (a := ⟨b, off, none⟩) (cs := (c.toList.drop off).take k) (by simp at hlen ⊢; omega) hc
  simp [execOp, Instr.loadAt, Instr.sureAddr, hp, this]
theorem stab_ept_sc (tk : TTok tt P) {t : TypeId} {x : Operand} {c : List AVal} {off k : Nat} {v : AVal} (hx : opd F x = some (.ept c off)) (ht : find tt.size t = some (k, false)) (hv : c[off]? = some v) :
    Stab P n ⟨dst, .load t x, ty, pos, af, gd⟩ F H v := fun g a w hi hf => by
  have hp := hf.opd hx
  generalize hcv : a.eval x = cv0 at hp
  obtain ⟨i, d, hti, hk, hd, ha⟩ := tk.size ht
  obtain ⟨hj, rfl⟩ := List.getElem?_eq_some_iff.1 hv
  cases hp with
  | @ept _ _ b o cv h1 h2 h3 =>
    refine ⟨cv off, fun g' w' he => ?_, h3 off hj⟩
    have hc : w'.cell? ⟨b, o + off, none⟩ = some (cv off) := (he.cell h1 (by omega)).trans (h2 off hj)
    simp [execOp, Instr.loadAt, Instr.sureAddr, hcv, run_load_sc hd ha hc]
theorem stab_ept_agg (tk : TTok tt P) {t : TypeId} {x : Operand} {c ds : List AVal} {off k : Nat} (hx : opd F x = some (.ept c off)) (ht : find tt.size t = some (k, true)) (hl : off + k ≤ c.length) (hds : (c.drop off).take k = ds) :
    Stab P n ⟨dst, .load t x, ty, pos, af, gd⟩ F H (.agg ds) := fun g a w hi hf => by
  subst hds
  have hp := hf.opd hx
  generalize hcv : a.eval x = cv0 at hp
  obtain ⟨i, d, hti, hk, hd, ha⟩ := tk.size ht
  cases hp with
  | @ept _ _ b o cv h1 h2 h3 =>
    have hlen : ((List.range k).map fun j => cv (off + j)).length = i.size := by simp [hk]
    refine ⟨.agg ((List.range k).map fun j => cv (off + j)).toArray, fun g' w' he => ?_, ?_⟩
    · have := run_load_agg (w := w') hd ha hti (a := ⟨b, o + off, none⟩) hlen (fun j v hv => by
        rw [add_plain]
        obtain ⟨hj, rfl⟩ := List.getElem?_eq_some_iff.1 hv
        simp at hj
        have hc : w'.cell? ⟨b, o + (off + j), none⟩ = some (cv (off + j)) := (he.cell h1 (by omega)).trans (h2 (off + j) (by omega))
        rw [show o + off + j = o + (off + j) by omega, hc]
        simp)
      simp [execOp, Instr.loadAt, Instr.sureAddr, hcv] at this ⊢
      rw [this]
      rfl
    · refine .agg (by simp; omega) (fun j hj hj' => ?_)
      simp at hj hj'
      have := h3 (off + j) (by omega)
      simpa using this

/-- Operation i is taken first: it reads nothing that is written. -/
theorem a_take (i : Nat) {o : Oper} {v : AVal} (hi : ops[i]? = some o) (hc : (Region.noSelect ops && Region.free .any ops listed i && (Region.ready .any ops listed).contains i) = true) (hd : dstOk n o.dst = true) (hg : gval ops F o.guard = some true)
    (hs : Stab P n o F H v) (h : AAny P n ops fuel (listed.setIfInBounds i true) (F.put o.dst v) H K) : AAny P n ops (fuel + 1) listed F H K := fun g a w Kc hinv hfr hk => by
  simp only [Bool.and_eq_true] at hc
  obtain ⟨cv, h1, h2⟩ := hs g a w hinv hfr
  refine wpAnyH_take hi hc.1.1 hc.1.2 hc.2 (fun c a w x => x) (.inl ⟨wanted_of hfr hg, fun w' hw' => ?_⟩) ⟨g, Ext.refl _ _⟩ (h g _ w Kc hinv (hfr.put (dstOk_lt hd) h2) hk)
  obtain ⟨g', he⟩ := hw'
  exact h1 g' w' he
/-- Operation i is passed by: its guard says no. -/
theorem a_skip (i : Nat) {o : Oper} (hi : ops[i]? = some o) (hc : (Region.noSelect ops && Region.free .any ops listed i && (Region.ready .any ops listed).contains i) = true) (hd : dstOk n o.dst = true) (hg : gval ops F o.guard = some false)
    (h : AAny P n ops fuel (listed.setIfInBounds i true) (F.put o.dst (.tup [])) H K) : AAny P n ops (fuel + 1) listed F H K := fun g a w Kc hinv hfr hk => by
  simp only [Bool.and_eq_true] at hc
  exact wpAnyH_take hi hc.1.1 hc.1.2 hc.2 (fun c a w x => x) (.inr ⟨wanted_of hfr hg, rfl⟩) ⟨g, Ext.refl _ _⟩ (h g _ w Kc hinv (hfr.put (dstOk_lt hd) VR.undef) hk)
/-- A bool that guards ask for: both ways. -/
theorem a_split (d : Nat) (b : Bool) (hx : F.get d = some (.sc (.bool b))) (ht : b = true → AAny P n ops fuel listed ((d, .sc (.bool true)) :: F) H K) (hf : b = false → AAny P n ops fuel listed ((d, .sc (.bool false)) :: F) H K) : AAny P n ops fuel listed F H K :=
  fun g a w Kc hi hfr hk => by
    cases b with
    | true => exact ht rfl g a w Kc hi (hfr.sub (Fr.sub_cons hx (Fr.sub_refl _))) hk
    | false => exact hf rfl g a w Kc hi (hfr.sub (Fr.sub_cons hx (Fr.sub_refl _))) hk

theorem wpOp_of_AOps {i : Nat} {o : Oper} (hi : ops[i]? = some o) (h : AOps P n ops [o] F H K) {g : Ghost} {a : Act} {w : World} {Q : Exit → Act → World → Prop} {Kc : Act → World → Prop} (hinv : Inv g w H) (hfr : FR g w n F a)
    (hk : ∀ g' a' w' F' H', Ext g w g' w' → Inv g' w' H' → FR g' w' n F' a' → K F' H' → Kc a' w') : wpOp P ops Q i Kc a w := by
  have := h g a w (onlyN Kc) hinv hfr hk
  unfold wpOp
  rw [hi]
  simp only
  unfold wpList at this
  split
  · rename_i hw
    rw [if_pos hw] at this
    rcases this with h1 | ⟨_, a0, w0, h0⟩
    · exact .inl (Oper.wp_only (Q := onlyN Kc) (fun c a w h => h) (fun a w h => h) h1)
    · exact h0.elim
  · rename_i hw
    rw [if_neg hw] at this
    exact this
theorem a_all {rs : List Nat} (hr : Region.ready .any ops listed = rs) (hne : rs.isEmpty = false) (h : ∀ i, i ∈ rs → ∃ o, ops[i]? = some o ∧ AOps P n ops [o] F H (fun F' H' => AAny P n ops fuel (listed.setIfInBounds i true) F' H' K)) : AAny P n ops (fuel + 1) listed F H K :=
  fun g a w Kc hinv hfr hk => by
    refine wpAnyH_all hr (by intro e; rw [e] at hne; cases hne) fun i hi => ?_
    obtain ⟨o, ho, hA⟩ := h i hi
    refine wpOp_of_AOps ho hA hinv hfr fun g1 a1 w1 F1 H1 e1 i1 f1 k1 => ⟨⟨g1, e1⟩, ?_⟩
    exact wpAnyH_weak (fun w2 ⟨g2, e2⟩ => ⟨g2, e1.trans e2⟩) _ _ _ _ (k1 g1 a1 w1 Kc i1 f1 fun g2 a2 w2 F2 H2 e2 i2 f2 k2 => hk g2 a2 w2 F2 H2 (e1.trans e2) i2 f2 k2)
theorem a_one (i : Nat) {o : Oper} (hr : Region.ready .any ops listed = [i]) (ho : ops[i]? = some o) (h : AOps P n ops [o] F H (fun F' H' => AAny P n ops fuel (listed.setIfInBounds i true) F' H' K)) : AAny P n ops (fuel + 1) listed F H K :=
  a_all hr rfl fun j hj => by
    have : j = i := by simpa using hj
    subst this
    exact ⟨o, ho, h⟩
theorem a_two (i j : Nat) {o p : Oper} (hr : Region.ready .any ops listed = [i, j]) (ho : ops[i]? = some o) (hp : ops[j]? = some p) (h : AOps P n ops [o] F H (fun F' H' => AAny P n ops fuel (listed.setIfInBounds i true) F' H' K))
    (h2 : AOps P n ops [p] F H (fun F' H' => AAny P n ops fuel (listed.setIfInBounds j true) F' H' K)) : AAny P n ops (fuel + 1) listed F H K :=
  a_all hr rfl fun k hk => by
    have : k = i ∨ k = j := by simpa using hk
    rcases this with rfl | rfl
    · exact ⟨o, ho, h⟩
    · exact ⟨p, hp, h2⟩
theorem a_done (hr : Region.ready .any ops listed = []) (h : K F H) : AAny P n ops fuel listed F H K := fun g a w Kc hi hf hk => wpAnyH_done hr (hk g a w F H (Ext.refl _ _) hi hf h) fuel
theorem AAny_mono {K' : APost} (h : AAny P n ops fuel listed F H K) (hk : ∀ F H, K F H → K' F H) : AAny P n ops fuel listed F H K' :=
  fun g a w Kc hi hf hk' => h g a w Kc hi hf fun g1 a1 w1 F1 H1 e1 i1 f1 k1 => hk' g1 a1 w1 F1 H1 e1 i1 f1 (hk _ _ k1)
theorem AAny_sub {F' : Fr} {H' : AHeap} (h : AAny P n ops fuel listed F H K) (hF : F.sub F') (hH : H.sub H') : AAny P n ops fuel listed F' H' K :=
  fun g a w Kc hi hf hk => h g a w Kc (hi.sub hH) (hf.sub hF) hk

theorem aw_draw {id : Nat} {l : List Oper} {Q : AQ} (hm : P.follows .mixedOrders = true) (h : AAny P n l.toArray l.length (Array.replicate l.length false) F H (fun F' H' => Q .normal F' H')) : AW P n (.region id l.toArray true) F H Q := fun g a w Qc hi hf hk => by
  have h1 := h g a w.drew (fun a' w' => Qc .normal a' w') hi.drew (hf.mono (ext_drew g w)) fun g' a' w' F' H' he hi' hf' hK => hk _ g' a' w' F' H' ((ext_drew g w).trans he) hi' hf' hK
  refine wp_mono (wp_region_held (Q := onlyN (fun a' w' => Qc .normal a' w')) (S := reach g w.drew) (id := id) (a := a) (w := w) hm (by simpa using h1)) fun e a' w' hq => ?_
  cases e <;> first | exact hq | exact hq.elim

/-! ### protected for a while -/
def Ghost.prot (g : Ghost) (bs : List Nat) : Ghost := { g with pr := fun b => g.pr b ∨ b ∈ bs }
theorem VR.ghost {g g' : Ghost} (hb : g'.base = g.base) (hl : g'.lim = g.lim) {w : World} {v : AVal} {cv : Value} (h : VR g w v cv) : VR g' w v cv := by
  have himm : ∀ b e, g.imm b e → g'.imm b e := fun b e => by unfold Ghost.imm; rw [hb, hl]; exact id
  induction h with
  | sc hp => exact .sc hp
  | ptr => exact .ptr
  | ept cv hi hc _ ih => exact .ept cv (himm _ _ hi) hc ih
  | nil => exact .nil
  | nil' => exact .nil'
  | zero => exact .zero
  | zero' => exact .zero'
  | @sl xs own b o es cap cv h1 h2 h3 h4 h5 h6 h7 _ ih =>
    refine .sl cv h1 (himm _ _ h2) h3 h4 h5 ?_ h7 ih
    cases own with
    | no => trivial
    | full => exact h6
    | tok b' e' s' => exact ⟨h6.1, h6.2.1, h6.2.2.1, by rw [hb]; exact h6.2.2.2⟩
  | row => exact .row
  | clo h1 h2 _ _ ih1 ih2 => exact .clo h1 h2 ih1 ih2
  | agg h1 _ ih => exact .agg h1 ih
  | tup h1 _ ih => exact .tup h1 ih
  | mapv => exact .mapv
def roOf : HObj → HObj
  | .cells cs => .ro cs
  | o => o
def AHeap.prot (H : AHeap) (bs : List Nat) : AHeap := fun x => if x ∈ bs then (H x).map roOf else H x
def AHeap.back (H' H : AHeap) (bs : List Nat) : AHeap := fun x => if x ∈ bs then H x else H' x
/-- Each of some blocks is one of cells. -/
def allCells (H : AHeap) (bs : List Nat) : Prop := ∀ b, b ∈ bs → ∃ cs, Rd H b cs
theorem FR.ghost {g g' : Ghost} (hb : g'.base = g.base) (hl : g'.lim = g.lim) {w : World} {F : Fr} {a : Act} (h : FR g w n F a) : FR g' w n F a :=
  ⟨h.size, h.defers, fun t v ht => let ⟨cv, h1, h2⟩ := h.slot t v ht; ⟨cv, h1, h2.ghost hb hl⟩⟩

theorem inv_prot {g : Ghost} {w : World} {bs : List Nat} (hi : Inv g w H) (hb : allCells H bs) : Inv (g.prot bs) w (H.prot bs) := by
  refine ⟨hi.base_le, fun b hlt => ⟨(hi.fresh b hlt).1, fun hp => ?_⟩, fun b o ho => ?_⟩
  · rcases hp with hp | hp
    · exact (hi.fresh b hlt).2 hp
    · obtain ⟨cs, h⟩ := hb b hp
      have : b < w.heap.size := by rcases h with h | h <;> exact hi.lt h
      omega
  · simp only [AHeap.prot] at ho
    split at ho
    · rename_i hm
      obtain ⟨cs, h⟩ := hb b hm
      rcases h with h | h
      · rw [h] at ho
        cases ho
        obtain ⟨h0, ⟨h1, h2⟩, c, el, h3, h4, h5⟩ := hi.obj b _ h
        exact ⟨h0, ⟨h1, .inr hm⟩, c, el, h3, h4, fun j x y => (h5 j x y).ghost (by rfl) (by rfl)⟩
      · rw [h] at ho
        cases ho
        obtain ⟨h0, ⟨h1, h2⟩, c, el, h3, h4, h5⟩ := hi.obj b _ h
        exact ⟨h0, ⟨h1, .inl h2⟩, c, el, h3, h4, fun j x y => (h5 j x y).ghost (by rfl) (by rfl)⟩
    · rename_i hm
      have hok := hi.obj b o ho
      refine ⟨hok.1, ?_⟩
      have hnp : ∀ hp : ¬ g.pr b, ¬ (g.prot bs).pr b := fun hp h => h.elim hp hm
      cases o with
      | cells cs => obtain ⟨_, ⟨h1, h2⟩, c, el, h3, h4, h5⟩ := hok; exact ⟨⟨h1, hnp h2⟩, c, el, h3, h4, fun j x y => (h5 j x y).ghost (by rfl) (by rfl)⟩
      | ro cs => obtain ⟨_, ⟨h1, h2⟩, c, el, h3, h4, h5⟩ := hok; exact ⟨⟨h1, .inl h2⟩, c, el, h3, h4, fun j x y => (h5 j x y).ghost (by rfl) (by rfl)⟩
      | grow e => obtain ⟨_, ⟨h1, h2⟩, h3⟩ := hok; exact ⟨⟨h1, hnp h2⟩, h3⟩
      | amap es => obtain ⟨_, ⟨h1, h2⟩, c, el, h3, h4, h5⟩ := hok; exact ⟨⟨h1, hnp h2⟩, c, el, h3, h4, fun j x y => ⟨(h5 j x y).1, (h5 j x y).2.ghost (by rfl) (by rfl)⟩⟩
      | iter s pos => obtain ⟨_, ⟨h1, h2⟩, h3⟩ := hok; exact ⟨⟨h1, hnp h2⟩, h3⟩
theorem ext_back {g gp : Ghost} {w w' : World} {bs : List Nat} (he : Ext (g.prot bs) w gp w') : Ext g w { gp with pr := g.pr } w' :=
  ⟨he.base, he.os, he.tape, he.output, he.size, he.old, he.lim, he.cells, he.shape, rfl, fun b hb => he.same b (.inl hb)⟩
theorem inv_back {g gp : Ghost} {w w' : World} {bs : List Nat} {H' : AHeap} (hi : Inv g w H) (hb : allCells H bs) (he : Ext (g.prot bs) w gp w') (hi' : Inv gp w' H') (hs : ∀ b, b ∈ bs → H' b = H.prot bs b) :
    Inv { gp with pr := g.pr } w' (H'.back H bs) := by
  have hpr : gp.pr = fun b => g.pr b ∨ b ∈ bs := he.pr
  refine ⟨hi'.base_le, fun b hlt => ⟨(hi'.fresh b hlt).1, fun hp => (hi'.fresh b hlt).2 (by rw [hpr]; exact .inl hp)⟩, fun b o ho => ?_⟩
  simp only [AHeap.back] at ho
  split at ho
  · rename_i hm
    have h1 := hs b hm
    simp only [AHeap.prot, if_pos hm, ho] at h1
    have hok := hi'.obj b _ h1
    have hold := hi.obj b o ho
    obtain ⟨cs, hrd⟩ := hb b hm
    refine ⟨hok.1, ?_⟩
    rcases hrd with hrd | hrd
    · rw [hrd] at ho
      cases ho
      obtain ⟨_, ⟨q1, q2⟩, _⟩ := hold
      obtain ⟨_, ⟨p1, p2⟩, c, el, p3, p4, p5⟩ := hok
      exact ⟨⟨p1, q2⟩, c, el, p3, p4, fun j x y => (p5 j x y).ghost (by rfl) (by rfl)⟩
    · rw [hrd] at ho
      cases ho
      obtain ⟨_, ⟨q1, q2⟩, _⟩ := hold
      obtain ⟨_, ⟨p1, p2⟩, c, el, p3, p4, p5⟩ := hok
      exact ⟨⟨p1, q2⟩, c, el, p3, p4, fun j x y => (p5 j x y).ghost (by rfl) (by rfl)⟩
  · rename_i hm
    have hok := hi'.obj b o ho
    refine ⟨hok.1, ?_⟩
    have hnp : ¬ gp.pr b → ¬ g.pr b := fun hp h => hp (by rw [hpr]; exact .inl h)
    have hyp : gp.pr b → g.pr b := fun hp => by rw [hpr] at hp; exact hp.resolve_right hm
    cases o with
    | cells cs => obtain ⟨_, ⟨h1, h2⟩, c, el, h3, h4, h5⟩ := hok; exact ⟨⟨h1, hnp h2⟩, c, el, h3, h4, fun j x y => (h5 j x y).ghost (by rfl) (by rfl)⟩
    | ro cs => obtain ⟨_, ⟨h1, h2⟩, c, el, h3, h4, h5⟩ := hok; exact ⟨⟨h1, hyp h2⟩, c, el, h3, h4, fun j x y => (h5 j x y).ghost (by rfl) (by rfl)⟩
    | grow e => obtain ⟨_, ⟨h1, h2⟩, h3⟩ := hok; exact ⟨⟨h1, hnp h2⟩, h3⟩
    | amap es => obtain ⟨_, ⟨h1, h2⟩, c, el, h3, h4, h5⟩ := hok; exact ⟨⟨h1, hnp h2⟩, c, el, h3, h4, fun j x y => ⟨(h5 j x y).1, (h5 j x y).2.ghost (by rfl) (by rfl)⟩⟩
    | iter s pos => obtain ⟨_, ⟨h1, h2⟩, h3⟩ := hok; exact ⟨⟨h1, hnp h2⟩, h3⟩
/-- While a statement runs, some blocks are read alone. -/
theorem aw_prot {c : Code} {Q : AQ} (bs : List Nat) (hb : allCells H bs) (h : AW P n c F (H.prot bs) (fun e F' H' => (∀ b, b ∈ bs → H' b = H.prot bs b) ∧ Q e F' (H'.back H bs))) : AW P n c F H Q := fun g a w Qc hi hf hk =>
  h (g.prot bs) a w Qc (inv_prot hi hb) (hf.ghost (by rfl) (by rfl)) fun e gp a' w' F' H' he hi' hf' hq =>
    hk e { gp with pr := g.pr } a' w' F' (H'.back H bs) (ext_back he) (inv_back hi hb he hi' hq.1) (hf'.ghost (by rfl) (by rfl)) hq.2
end
end Abs
end Go.Proofs.Ytmokoofibnoojaa
