import Derived.Test.YtmokoofibnoojaaB0
set_option linter.unusedVariables false
namespace Go.Proofs.Ytmokoofibnoojaa
namespace Abs
open Go.RowKit Go.ChangeShapes Go.WideShapes
open Go.ChangeMaps (open_string)

/-! ### a law's row out of its contract -/
def OpensV (P : Program) (t : TypeId) (R : AVal → Prop) : Prop :=
  ∀ (H : Type) (enc : TypeId × Value → H) (W : World) (base : Nat) (v : Value) (d : DataW H) (ps : List MemPlace), Value.okWide P W .any base t v → DataW.Trod enc P W 0 (fun _ => true) true t v d ps → ∃ x, VR (g0 W) W x v ∧ R x
theorem OpensV.mono {P : Program} {t : TypeId} {R R' : AVal → Prop} (h : OpensV P t R) (k : ∀ x, R x → R' x) : OpensV P t R' :=
  fun H enc W base v d ps h1 h2 => let ⟨x, h3, h4⟩ := h H enc W base v d ps h1 h2; ⟨x, h3, k x h4⟩
theorem opensV_int {P : Program} {t : TypeId} {k : IntKind} (hu : P.underlying t = some (.int k)) : OpensV P t (fun x => ∃ n, x = .sc (.int k n) ∧ (Lit.int k n).wf = true) :=
  fun H enc W base v d ps h1 h2 => by
    obtain ⟨n, rfl, _, _, hw⟩ := open_int hu h1 h2
    exact ⟨_, .sc trivial, n, rfl, hw⟩
theorem opensV_bool {P : Program} {t : TypeId} (hu : P.underlying t = some .bool) : OpensV P t (fun x => ∃ b, x = .sc (.bool b)) :=
  fun H enc W base v d ps h1 h2 => by
    obtain ⟨b, rfl, _, _⟩ := open_bool hu h1 h2
    exact ⟨_, .sc trivial, b, rfl⟩
theorem opensV_string {P : Program} {t : TypeId} (hu : P.underlying t = some .string) : OpensV P t (fun x => ∃ s : ByteArray, x = .sc (.string s) ∧ s.size ≤ maxLen) :=
  fun H enc W base v d ps h1 h2 => by
    obtain ⟨s, rfl, _, _, hw⟩ := open_string hu h1 h2
    exact ⟨_, .sc trivial, s, rfl, hw⟩
theorem opensV_slice {P : Program} {t e : TypeId} {es : Nat} {R : List AVal → Prop} (hs : P.cellsOf t = 1) (hu : P.underlying t = some (.slice e)) (h0 : 0 < es) (he : Opens P e es R) :
    OpensV P t (fun x => ∃ rows, x = .sl rows .no ∧ rows.length ≤ maxLen ∧ ∀ r ∈ rows, R r ∧ r.length = es) :=
  fun H enc W base v d ps h1 h2 => by
    obtain ⟨a, len, cap, rfl⟩ := okWide_slice hu h1
    obtain ⟨fuel, hf⟩ := h2
    obtain ⟨xs, hv, rows, rfl, hl, hr⟩ := (opens_slice hs hu h0 he).2 H enc W fuel _ _ hf
    have := hv.2 0 (by simp) (by simp [Value.cells])
    exact ⟨_, this, rows, rfl, hl, hr⟩
theorem opensV_struct {P : Program} {t : TypeId} {fs : Array Field} {sz : Nat} {rs : List (Nat × (List AVal → Prop))} (hs : P.cellsOf t = sz) (hu : P.underlying t = some (.struct fs)) (hf : OpF P fs.toList 0 rs) (ht : total rs = sz) :
    OpensV P t (fun x => ∃ xs, x = .agg xs ∧ Cat rs xs) :=
  fun H enc W base v d ps h1 h2 => by
    simp only [Value.okWide, hu] at h1
    obtain ⟨cs, rfl, _, _⟩ := h1
    obtain ⟨fuel, hf'⟩ := h2
    obtain ⟨xs, hv, hc⟩ := (opens_struct hs hu hf ht).2 H enc W fuel _ _ hf'
    refine ⟨.agg xs, .agg (by simpa [Value.cells] using hv.1) (fun j h h' => ?_), xs, rfl, hc⟩
    have := hv.2 j h (by simpa [Value.cells] using h')
    simpa [Value.cells] using this

def OpAll (P : Program) : List TypeId → List (AVal → Prop) → Prop
  | [], [] => True
  | t :: ts, R :: Rs => OpensV P t R ∧ OpAll P ts Rs
  | _, _ => False
def AllR : List (AVal → Prop) → List AVal → Prop
  | [], [] => True
  | R :: Rs, x :: xs => R x ∧ AllR Rs xs
  | _, _ => False
theorem opens_all {P : Program} {H : Type} {enc : TypeId × Value → H} {W : World} {base : Nat} : ∀ {ts : List TypeId} {Rs : List (AVal → Prop)} {vs : List Value} {ds : List (DataW H)} {ps : List MemPlace}, OpAll P ts Rs →
    (∀ (j : Nat) t v, ts[j]? = some t → vs[j]? = some v → Value.okWide P W .any base t v) → DataW.TrodAll enc P W 0 (fun _ => true) true ts vs ds ps → ∃ xs, VRs (g0 W) W xs vs ∧ AllR Rs xs
  | [], [], [], [], _, _, _, _ => ⟨[], .nil, trivial⟩
  | t :: ts, R :: Rs, v :: vs, d :: ds, ps, ⟨h1, h2⟩, hok, ⟨p, q, k1, k2, _⟩ => by
    obtain ⟨x, hx, hR⟩ := h1 H enc W base v d p (hok 0 t v rfl rfl) k1
    obtain ⟨xs, hxs, hRs⟩ := opens_all h2 (fun j t v a b => hok (j + 1) t v a b) k2
    exact ⟨x :: xs, .cons hx hxs, hR, hRs⟩
  | [], _ :: _, _, _, _, h, _, _ => h.elim
  | _ :: _, [], _, _, _, h, _, _ => h.elim
  | [], [], _ :: _, _, _, _, _, h => h.elim
  | [], [], [], _ :: _, _, _, _, h => h.elim
  | _ :: _, _ :: _, [], _, _, _, _, h => h.elim
  | _ :: _, _ :: _, _ :: _, [], _, _, _, h => h.elim

theorem trodAll_below {P : Program} {H : Type} {enc : TypeId × Value → H} {W W' : World} (hl : laidOutB P = true) (hb : Below W.heap.size W W') : ∀ {ts : List TypeId} {vs : List Value} {ds : List (DataW H)} {ps : List MemPlace},
    (∀ t ∈ ts, P.readableRec t = true ∧ t < P.types.size) → DataW.TrodAll enc P W 0 (fun _ => true) true ts vs ds ps → (∀ x ∈ ps, x.block < W.heap.size) → DataW.TrodAll enc P W' 0 (fun b => decide (b < W.heap.size)) true ts vs ds ps
  | [], [], [], _, _, h, _ => h
  | t :: ts, v :: vs, d :: ds, ps, ht, ⟨p, q, k1, k2, hp⟩, hlt => by
    obtain ⟨h1, h2⟩ := ht t List.mem_cons_self
    subst hp
    exact ⟨p, q, Below.trod hl h1 h2 k1 hb (fun x hx => hlt x (List.mem_append_left _ hx)), trodAll_below hl hb (fun t ht' => ht t (List.mem_cons_of_mem _ ht')) k2 (fun x hx => hlt x (List.mem_append_right _ hx)), rfl⟩
  | [], _ :: _, _, _, _, h, _ => h.elim
  | [], [], _ :: _, _, _, h, _ => h.elim
  | _ :: _, [], _, _, _, h, _ => h.elim
  | _ :: _, _ :: _, [], _, _, h, _ => h.elim

def readAll (P : Program) (ts : List TypeId) : Bool := ts.all fun t => P.readableRec t && decide (t < P.types.size)
theorem trodAll_len {P : Program} {H : Type} {enc : TypeId × Value → H} {W : World} {b : Nat} {sp : Nat → Bool} {hd : Bool} : ∀ {ts : List TypeId} {vs : List Value} {ds : List (DataW H)} {ps : List MemPlace}, DataW.TrodAll enc P W b sp hd ts vs ds ps → ds.length = ts.length
  | [], [], [], _, _ => rfl
  | _ :: ts, _ :: vs, _ :: ds, _, ⟨_, _, _, h, _⟩ => by simp [trodAll_len h]
  | [], _ :: _, _, _, h => h.elim
  | [], [], _ :: _, _, h => h.elim
  | _ :: _, [], _, _, h => h.elim
  | _ :: _, _ :: _, [], _, h => h.elim

theorem law_calls {P : Program} {f : FuncId} {fn : Func} {s : ChangeSpec} {tb : TypeId} {ts : List TypeId} {Rs : List (AVal → Prop)} (hl : laidOutB P = true) (hp : fn.params.toList = ts) (hres : fn.resultTypes = #[tb]) (htb : P.underlying tb = some .bool)
    (hvars : s.vars = []) (hs : ∀ (H : Type) (ds : List (DataW H)), ds.length = ts.length → s.fn H ds = { results := [.lit (.bool true)], args := ds }) (hrd : readAll P ts = true) (ho : OpAll P ts Rs)
    (hc : ∀ xs, AllR Rs xs → ACalls P f xs (fun _ => none) (fun r _ => r = .sc (.bool true)))
    {H : Type} {enc : TypeId × Value → H} (W : World) (base : Nat) (args : Array Value) (ds gs : List (DataW H)) (before : List MemPlace)
    (hok : ∀ (j : Nat) t v, fn.params[j]? = some t → args[j]? = some v → Value.okWide P W .any base t v) (hW : DataW.Whole enc P fn.params.toList s.vars false W args.toList ds gs before) :
    Calls P f args W fun e W' => ∃ v, e = .returned v ∧ s.post enc P fn false true false false W args v W' := by
  have hW' := hW
  obtain ⟨p, q, hA, hV, rfl, hfz, hnd⟩ := hW
  rw [hvars] at hV
  obtain ⟨rfl, rfl⟩ := trodVars_none hV
  have hA' := hA
  rw [hp] at hA'
  obtain ⟨xs, hxs, hR⟩ := opens_all ho (fun j t v h1 h2 => hok j t v (by rw [← hp] at h1; simpa using h1) (by simpa using h2)) hA'
  have hrd' : ∀ t ∈ ts, P.readableRec t = true ∧ t < P.types.size := fun t ht => by
    have := List.all_eq_true.1 hrd t ht
    simpa using this
  refine (hc xs hR (g0 W) W args (inv0 W) (by simpa using hxs.1) (fun j h h' => by have := hxs.2 j h (by simpa using h'); rw [Array.getElem_toList] at this; exact this)).mono fun e W' ⟨cv, g', v, H', he, hext, _, hv, hr⟩ => ?_
  subst hr
  have : cv = .bool true := by cases hv; rfl
  subst this
  have hb : Below W.heap.size W W' := ⟨hext.os, hext.tape, hext.output, hext.size, fun k hk => hext.old k hk⟩
  have hlt : ∀ x ∈ p, x.block < W.heap.size := fun x hx => hW'.lt x (by simpa using hx)
  have hfn := hs H ds (trodAll_len hA')
  refine ⟨_, he, ds, [], p ++ [], [], p, [], hW', ?_, ?_, ?_, hb.frame _, fun h => by cases h⟩
  · rw [List.append_nil, hfn, hres]
    exact trodAll_mk1 (shut_bool htb true)
  · rw [List.append_nil, hfn, hp]
    exact trodAll_below hl hb hrd' hA' hlt
  · rw [hvars, List.append_nil, hfn]
    rfl
end Abs
end Go.Proofs.Ytmokoofibnoojaa
