import Derived.Test.YtbldnaflffmddaaA4
import Derived.ProofKit
import Derived.Test.YtbldnaflffmddaaL1
import Derived.Test.YtbldnaflffmddaaA10
set_option linter.unusedVariables false
namespace Go.Proofs.Ytbldnaflffmddaa
namespace Abs
open Go.RowKit Go.ChangeShapes Go.WideShapes

/-! ### what is handed in, as abstract values -/
def g0 (W : World) : Ghost := ⟨W.heap.size, fun _ => 0, fun _ => False⟩
theorem inv0 (W : World) : Inv (g0 W) W (fun _ => none) := ⟨Nat.le_refl _, fun _ _ => ⟨rfl, fun h => h⟩, fun b o h => by cases h⟩

def Opens (P : Program) (t : TypeId) (sz : Nat) (R : List AVal → Prop) : Prop :=
  P.cellsOf t = sz ∧ ∀ (H : Type) (enc : TypeId × Value → H) (W : World) (fuel : Nat) (cs : List Value) (x : DataW H × List MemPlace), DataW.trod enc P W 0 (fun _ => true) true fuel t cs = some x → ∃ xs, VRs (g0 W) W xs cs ∧ R xs

theorem Opens.mono {P : Program} {t : TypeId} {sz : Nat} {R R' : List AVal → Prop} (h : Opens P t sz R) (k : ∀ xs, R xs → R' xs) : Opens P t sz R' :=
  ⟨h.1, fun H enc W fuel cs x hx => let ⟨xs, h1, h2⟩ := h.2 H enc W fuel cs x hx; ⟨xs, h1, k xs h2⟩⟩

theorem opens_int {P : Program} {t : TypeId} {k : IntKind} (hs : P.cellsOf t = 1) (hu : P.underlying t = some (.int k)) : Opens P t 1 (fun xs => ∃ n, xs = [.sc (.int k n)] ∧ (Lit.int k n).wf = true) :=
  ⟨hs, fun H enc W fuel cs x hx => by
    obtain ⟨n, rfl, _, hw⟩ := DataW.trod_int hu hx
    exact ⟨_, .cons (.sc trivial) .nil, n, rfl, hw⟩⟩
theorem opens_string {P : Program} {t : TypeId} (hs : P.cellsOf t = 1) (hu : P.underlying t = some .string) : Opens P t 1 (fun xs => ∃ s : ByteArray, xs = [.sc (.string s)] ∧ s.size ≤ maxLen) :=
  ⟨hs, fun H enc W fuel cs x hx => by
    obtain ⟨s, rfl, _, hw⟩ := DataW.trod_string hu hx
    exact ⟨_, .cons (.sc trivial) .nil, s, rfl, hw⟩⟩

theorem gather {α : Type} {Q : Nat → α → Prop} : ∀ n : Nat, (∀ i, i < n → ∃ r, Q i r) → ∃ l : List α, l.length = n ∧ ∀ i (h : i < l.length), Q i l[i]
  | 0, _ => ⟨[], rfl, fun i h => absurd h (Nat.not_lt_zero _)⟩
  | n + 1, h => by
    obtain ⟨l, h1, h2⟩ := gather n (fun i hi => h i (by omega))
    obtain ⟨r, hr⟩ := h n (by omega)
    refine ⟨l ++ [r], by simp [h1], fun i hi => ?_⟩
    rcases Nat.lt_or_ge i n with hin | hin
    · rw [List.getElem_append_left (by omega)]; exact h2 i (by omega)
    · have : i = n := by simp [h1] at hi; omega
      subst this
      rw [List.getElem_append_right (by omega)]
      simpa [h1] using hr

theorem opens_slice {P : Program} {t e : TypeId} {es : Nat} {R : List AVal → Prop} (hs : P.cellsOf t = 1) (hu : P.underlying t = some (.slice e)) (h0 : 0 < es) (he : Opens P e es R) :
    Opens P t 1 (fun xs => ∃ rows, xs = [.sl rows .no] ∧ rows.length ≤ maxLen ∧ ∀ r ∈ rows, R r ∧ r.length = es) :=
  ⟨hs, fun H enc W fuel cs x hx => by
    obtain ⟨hsz, hopen⟩ := he
    rcases DataW.trod_slice hu hx with ⟨rfl, _⟩ | ⟨a, len, cap, elems, rest, n, _, rfl, _, _, hlc, hcm, hlen, hel, hsp, _⟩
    · exact ⟨[.sl [] .no], .cons .nil' .nil, [], rfl, Nat.zero_le _, fun r h => by cases h⟩
    obtain ⟨hrl, hrest⟩ := hsp rfl
    have each : ∀ i, i < cap → ∃ r csi, VRs (g0 W) W r csi ∧ R r ∧ csi.length = es ∧ ∀ j, j < es → W.cell? ((a.add (i * es)).add j) = csi[j]? := fun i hi => by
      have : ∃ y, (W.cells? 0 (a.add (i * P.cellsOf e)) (P.cellsOf e)).bind (DataW.trod enc P W 0 (fun _ => true) true n e) = some y := by
        rcases Nat.lt_or_ge i len with h | h
        · exact ⟨elems[i], by rw [hel i h, List.getElem?_eq_getElem (by omega)]⟩
        · have := hrest (i - len) (by omega)
          rw [show len + (i - len) = i by omega] at this
          exact ⟨rest[i - len], by rw [this, List.getElem?_eq_getElem (by omega)]⟩
      obtain ⟨y, hy⟩ := this
      rw [Option.bind_eq_some_iff] at hy
      obtain ⟨csi, hc, ht⟩ := hy
      obtain ⟨r, hv, hr⟩ := hopen H enc W n csi y ht
      obtain ⟨_, hl, hcell⟩ := World.cells?_some hc
      rw [hsz] at hl hcell
      exact ⟨r, csi, hv, hr, hl, hcell⟩
    by_cases hc0 : cap = 0
    · subst hc0
      have : len = 0 := by omega
      subst this
      exact ⟨[.sl [] .no], .cons .zero' .nil, [], rfl, Nat.zero_le _, fun r h => by cases h⟩
    obtain ⟨b, off, spot⟩ := a
    have hspot : spot = none := by
      obtain ⟨r, csi, hv, _, hl, hcell⟩ := each 0 (by omega)
      have h1 := hcell 0 h0
      rw [List.getElem?_eq_getElem (by omega)] at h1
      have := World.cell?_spot h1
      cases spot with
      | none => rfl
      | some s => simp [Addr.add] at this
    subst hspot
    have hadd : ∀ i j, ((⟨b, off, none⟩ : Addr).add (i * es)).add j = ⟨b, off + i * es + j, none⟩ := fun i j => by rw [add_plain, add_plain]
    have hrow : hasRow W b (off + cap * es) := by
      obtain ⟨r, csi, hv, _, hl, hcell⟩ := each (cap - 1) (by omega)
      have h1 := hcell (es - 1) (by omega)
      rw [List.getElem?_eq_getElem (by omega), hadd] at h1
      unfold World.cell? at h1
      simp only at h1
      split at h1
      · rename_i c el fr hh
        simp only [Option.isSome_none, Bool.false_eq_true, if_false] at h1
        obtain ⟨hlt, _⟩ := Array.getElem?_eq_some_iff.1 h1
        refine ⟨el, c.size, by simp [World.shape?, hh], ?_⟩
        have : (cap - 1) * es + es = cap * es := by rw [← Nat.succ_mul]; congr 1; omega
        omega
      · cases h1
    obtain ⟨l, hl1, hl2⟩ := gather (Q := fun i (p : List AVal × List Value) => VRs (g0 W) W p.1 p.2 ∧ R p.1 ∧ p.2.length = es ∧ ∀ j, j < es → W.cell? ⟨b, off + i * es + j, none⟩ = p.2[j]?) len (fun i hi => by
      obtain ⟨r, csi, k1, k2, k3, k4⟩ := each i (by omega)
      exact ⟨(r, csi), k1, k2, k3, fun j hj => by rw [← hadd]; exact k4 j hj⟩)
    have hb : b < W.heap.size := by
      obtain ⟨el, m, hs, _⟩ := hrow
      rcases Nat.lt_or_ge b W.heap.size with h' | h'
      · exact h'
      · simp [World.shape?, Array.getElem?_eq_none h'] at hs
    have hrl : ∀ i (h : i < l.length), l[i].1.length = es := fun i h => by
      obtain ⟨k1, _, k3, _⟩ := hl2 i h
      rw [k1.1, k3]
    refine ⟨[.sl (l.map (·.1)) .no], .cons ?_ .nil, l.map (·.1), rfl, by simp only [List.length_map]; omega, fun r hr => ?_⟩
    · have hll : (l.map (·.1)).length = len := by rw [List.length_map, hl1]
      rw [← hll]
      refine .sl (es := es) (fun i j => ((l.getD i ([], [])).2).getD j Go.undef) (fun i h => ?_) (.inl hb) (by omega) (by omega) hrow trivial (fun i h j h' => ?_) (fun i h j h' => ?_)
      · simp only [List.getElem_map]; exact hrl i (by simpa using h)
      · have hi : i < l.length := by simpa using h
        simp only [List.getElem_map] at h'
        obtain ⟨k1, k2, k3, k4⟩ := hl2 i hi
        rw [hrl i hi] at h'
        rw [k4 j h', List.getD_eq_getElem?_getD, List.getD_eq_getElem?_getD, List.getElem?_eq_getElem hi, Option.getD_some, List.getElem?_eq_getElem (by omega)]
        rfl
      · have hi : i < l.length := by simpa using h
        simp only [List.getElem_map] at h' ⊢
        obtain ⟨k1, k2, k3, k4⟩ := hl2 i hi
        have hj : j < l[i].2.length := by rw [← k1.1]; exact h'
        have := k1.2 j h' hj
        rw [List.getD_eq_getElem?_getD, List.getD_eq_getElem?_getD, List.getElem?_eq_getElem hi, Option.getD_some, List.getElem?_eq_getElem hj]
        exact this
    · obtain ⟨p, hp, rfl⟩ := List.mem_map.1 hr
      obtain ⟨i, hi, rfl⟩ := List.getElem_of_mem hp
      exact ⟨(hl2 i hi).2.1, hrl i hi⟩⟩

/-- The fields of a struct, one behind the other. -/
def OpF (P : Program) : List Field → Nat → List (Nat × (List AVal → Prop)) → Prop
  | [], _, [] => True
  | f :: fs, off, (sz, R) :: rs => f.offset = off ∧ Opens P f.type sz R ∧ OpF P fs (off + sz) rs
  | _, _, _ => False
def Cat : List (Nat × (List AVal → Prop)) → List AVal → Prop
  | [], xs => xs = []
  | (_, R) :: rs, xs => ∃ a b, xs = a ++ b ∧ R a ∧ Cat rs b
def total : List (Nat × (List AVal → Prop)) → Nat
  | [] => 0
  | (sz, _) :: rs => sz + total rs

theorem opf_ok {P : Program} {H : Type} {enc : TypeId × Value → H} {W : World} {n : Nat} {cs : List Value} : ∀ {fs : List Field} {off : Nat} {rs : List (Nat × (List AVal → Prop))}, OpF P fs off rs → cs.length = off + total rs →
    (∀ f ∈ fs, ∃ y, DataW.trod enc P W 0 (fun _ => true) true n f.type ((cs.drop f.offset).take (P.cellsOf f.type)) = some y) → ∃ xs, VRs (g0 W) W xs (cs.drop off) ∧ Cat rs xs
  | [], off, [], _, hl, _ => ⟨[], by rw [List.drop_of_length_le (by simp [total] at hl; omega)]; exact .nil, rfl⟩
  | f :: fs, off, (sz, R) :: rs, ⟨h1, h2, h3⟩, hl, hf => by
    simp only [total] at hl
    obtain ⟨y, hy⟩ := hf f List.mem_cons_self
    rw [h1, h2.1] at hy
    obtain ⟨a, ha, hR⟩ := h2.2 H enc W n _ y hy
    obtain ⟨b, hb, hC⟩ := opf_ok h3 (by omega) (fun g hg => hf g (List.mem_cons_of_mem _ hg))
    refine ⟨a ++ b, ?_, a, b, rfl, hR, hC⟩
    have : cs.drop off = (cs.drop off).take sz ++ cs.drop (off + sz) := by rw [← List.drop_drop, List.take_append_drop]
    rw [this]
    exact ha.append hb
  | [], _, _ :: _, h, _, _ => h.elim
  | _ :: _, _, [], h, _, _ => h.elim

theorem opens_struct {P : Program} {t : TypeId} {fs : Array Field} {sz : Nat} {rs : List (Nat × (List AVal → Prop))} (hs : P.cellsOf t = sz) (hu : P.underlying t = some (.struct fs)) (hf : OpF P fs.toList 0 rs) (ht : total rs = sz) : Opens P t sz (Cat rs) :=
  ⟨hs, fun H enc W fuel cs x hx => by
    obtain ⟨xs, n, _, _, hl, hlen, hfs⟩ := DataW.trod_struct hu hx
    have := opf_ok (enc := enc) (W := W) (n := n) (cs := cs) hf (by rw [hl, hs, ht]; omega) (fun f hf => by
      obtain ⟨i, hi, rfl⟩ := List.getElem_of_mem hf
      have hi' : i < fs.size := by simpa using hi
      have := hfs i fs[i] (Array.getElem?_eq_getElem hi')
      exact ⟨xs[i], by simpa [List.getElem?_eq_getElem (show i < xs.length by omega)] using this⟩)
    simpa using this⟩
end Abs
end Go.Proofs.Ytbldnaflffmddaa

set_option linter.unusedVariables false
namespace Go.Proofs.Ytbldnaflffmddaa
namespace Abs
open Go.RowKit Go.ChangeShapes Go.WideShapes
open Go.ChangeMaps (open_string)

/-! ### a law's row out of its contract -/
def OpensV (P : Program) (t : TypeId) (R : AVal → Prop) : Prop :=
  ∀ (H : Type) (enc : TypeId × Value → H) (W : World) (base : Nat) (v : Value) (d : DataW H) (ps : List MemPlace), Value.okWide P W .any base t v → DataW.Trod enc P W 0 (fun _ => true) true t v d ps → ∃ x, VR (g0 W) W x v ∧ R x
theorem OpensV.mono {P : Program} {t : TypeId} {R R' : AVal → Prop} (h : OpensV P t R) (k : ∀ x, R x → R' x) : OpensV P t R' :=
  fun H enc W base v d ps h1 h2 => let ⟨x, h3, h4⟩ := h H enc W base v d ps h1 h2; ⟨x, h3, k x h4⟩
theorem opensV_int {P : Program} {t : TypeId} {k : IntKind} (hu : P.underlying t = some (.int k)) : OpensV P t (fun x => ∃ n, x = .sc (.int k n) ∧ (Lit.int k n).wf = true) :=
  fun H enc W base v d ps h1 h2 => by
    obtain ⟨n, rfl, _, _, hw⟩ := open_int hu h1 h2
    exact ⟨_, .sc trivial, n, rfl, hw⟩
theorem opensV_slice {P : Program} {t e : TypeId} {es : Nat} {R : List AVal → Prop} (hs : P.cellsOf t = 1) (hu : P.underlying t = some (.slice e)) (h0 : 0 < es) (he : Opens P e es R) :
    OpensV P t (fun x => ∃ rows, x = .sl rows .no ∧ rows.length ≤ maxLen ∧ ∀ r ∈ rows, R r ∧ r.length = es) :=
  fun H enc W base v d ps h1 h2 => by
    obtain ⟨a, len, cap, rfl⟩ := okWide_slice hu h1
    obtain ⟨fuel, hf⟩ := h2
    obtain ⟨xs, hv, rows, rfl, hl, hr⟩ := (opens_slice hs hu h0 he).2 H enc W fuel _ _ hf
    have := hv.2 0 (by simp) (by simp [Value.cells])
    exact ⟨_, this, rows, rfl, hl, hr⟩
def OpAll (P : Program) : List TypeId → List (AVal → Prop) → Prop
  | [], [] => True
  | t :: ts, R :: Rs => OpensV P t R ∧ OpAll P ts Rs
  | _, _ => False
def AllR : List (AVal → Prop) → List AVal → Prop
  | [], [] => True
  | R :: Rs, x :: xs => R x ∧ AllR Rs xs
  | _, _ => False
theorem opens_all {P : Program} {H : Type} {enc : TypeId × Value → H} {W : World} {base : Nat} : ∀ {ts : List TypeId} {Rs : List (AVal → Prop)} {vs : List Value} {ds : List (DataW H)} {ps : List MemPlace}, OpAll P ts Rs →
    (∀ (j : Nat) t v, ts[j]? = some t → vs[j]? = some v → Value.okWide P W .any base t v) → DataW.TrodAll enc P W 0 (fun _ => true) true ts vs ds ps → ∃ xs, VRs (g0 W) W xs vs ∧ AllR Rs xs
  | [], [], [], [], _, _, _, _ => ⟨[], .nil, trivial⟩
  | t :: ts, R :: Rs, v :: vs, d :: ds, ps, ⟨h1, h2⟩, hok, ⟨p, q, k1, k2, _⟩ => by
    obtain ⟨x, hx, hR⟩ := h1 H enc W base v d p (hok 0 t v rfl rfl) k1
    obtain ⟨xs, hxs, hRs⟩ := opens_all h2 (fun j t v a b => hok (j + 1) t v a b) k2
    exact ⟨x :: xs, .cons hx hxs, hR, hRs⟩
  | [], _ :: _, _, _, _, h, _, _ => h.elim
  | _ :: _, [], _, _, _, h, _, _ => h.elim
  | [], [], _ :: _, _, _, _, _, h => h.elim
  | [], [], [], _ :: _, _, _, _, h => h.elim
  | _ :: _, _ :: _, [], _, _, _, _, h => h.elim
  | _ :: _, _ :: _, _ :: _, [], _, _, _, h => h.elim

theorem trodAll_below {P : Program} {H : Type} {enc : TypeId × Value → H} {W W' : World} (hl : laidOutB P = true) (hb : Below W.heap.size W W') : ∀ {ts : List TypeId} {vs : List Value} {ds : List (DataW H)} {ps : List MemPlace},
    (∀ t ∈ ts, P.readableRec t = true ∧ t < P.types.size) → DataW.TrodAll enc P W 0 (fun _ => true) true ts vs ds ps → (∀ x ∈ ps, x.block < W.heap.size) → DataW.TrodAll enc P W' 0 (fun b => decide (b < W.heap.size)) true ts vs ds ps
  | [], [], [], _, _, h, _ => h
  | t :: ts, v :: vs, d :: ds, ps, ht, ⟨p, q, k1, k2, hp⟩, hlt => by
    obtain ⟨h1, h2⟩ := ht t List.mem_cons_self
    subst hp
    exact ⟨p, q, Below.trod hl h1 h2 k1 hb (fun x hx => hlt x (List.mem_append_left _ hx)), trodAll_below hl hb (fun t ht' => ht t (List.mem_cons_of_mem _ ht')) k2 (fun x hx => hlt x (List.mem_append_right _ hx)), rfl⟩
  | [], _ :: _, _, _, _, h, _ => h.elim
  | [], [], _ :: _, _, _, h, _ => h.elim
  | _ :: _, [], _, _, _, h, _ => h.elim
  | _ :: _, _ :: _, [], _, _, h, _ => h.elim

def readAll (P : Program) (ts : List TypeId) : Bool := ts.all fun t => P.readableRec t && decide (t < P.types.size)
theorem trodAll_len {P : Program} {H : Type} {enc : TypeId × Value → H} {W : World} {b : Nat} {sp : Nat → Bool} {hd : Bool} : ∀ {ts : List TypeId} {vs : List Value} {ds : List (DataW H)} {ps : List MemPlace}, DataW.TrodAll enc P W b sp hd ts vs ds ps → ds.length = ts.length
  | [], [], [], _, _ => rfl
  | _ :: ts, _ :: vs, _ :: ds, _, ⟨_, _, _, h, _⟩ => by simp [trodAll_len h]
  | [], _ :: _, _, _, h => h.elim
  | [], [], _ :: _, _, h => h.elim
  | _ :: _, [], _, _, h => h.elim
  | _ :: _, _ :: _, [], _, h => h.elim

theorem law_calls {P : Program} {f : FuncId} {fn : Func} {s : ChangeSpec} {tb : TypeId} {ts : List TypeId} {Rs : List (AVal → Prop)} (hl : laidOutB P = true) (hp : fn.params.toList = ts) (hres : fn.resultTypes = #[tb]) (htb : P.underlying tb = some .bool)
    (hvars : s.vars = []) (hs : ∀ (H : Type) (ds : List (DataW H)), ds.length = ts.length → s.fn H ds = { results := [.lit (.bool true)], args := ds }) (hrd : readAll P ts = true) (ho : OpAll P ts Rs)
    (hc : ∀ xs, AllR Rs xs → ACalls P f xs (fun _ => none) (fun r _ => r = .sc (.bool true)))
    {H : Type} {enc : TypeId × Value → H} (W : World) (base : Nat) (args : Array Value) (ds gs : List (DataW H)) (before : List MemPlace)
    (hok : ∀ (j : Nat) t v, fn.params[j]? = some t → args[j]? = some v → Value.okWide P W .any base t v) (hW : DataW.Whole enc P fn.params.toList s.vars false W args.toList ds gs before) :
    Calls P f args W fun e W' => ∃ v, e = .returned v ∧ s.post enc P fn false true false false W args v W' := by
  have hW' := hW
  obtain ⟨p, q, hA, hV, rfl, hfz, hnd⟩ := hW
  rw [hvars] at hV
  obtain ⟨rfl, rfl⟩ := trodVars_none hV
  have hA' := hA
  rw [hp] at hA'
  obtain ⟨xs, hxs, hR⟩ := opens_all ho (fun j t v h1 h2 => hok j t v (by rw [← hp] at h1; simpa using h1) (by simpa using h2)) hA'
  have hrd' : ∀ t ∈ ts, P.readableRec t = true ∧ t < P.types.size := fun t ht => by
    have := List.all_eq_true.1 hrd t ht
    simpa using this
  refine (hc xs hR (g0 W) W args (inv0 W) (by simpa using hxs.1) (fun j h h' => by have := hxs.2 j h (by simpa using h'); rw [Array.getElem_toList] at this; exact this)).mono fun e W' ⟨cv, g', v, H', he, hext, _, hv, hr⟩ => ?_
  subst hr
  have : cv = .bool true := by cases hv; rfl
  subst this
  have hb : Below W.heap.size W W' := ⟨hext.os, hext.tape, hext.output, hext.size, fun k hk => hext.old k hk⟩
  have hlt : ∀ x ∈ p, x.block < W.heap.size := fun x hx => hW'.lt x (by simpa using hx)
  have hfn := hs H ds (trodAll_len hA')
  refine ⟨_, he, ds, [], p ++ [], [], p, [], hW', ?_, ?_, ?_, hb.frame _, fun h => by cases h⟩
  · rw [List.append_nil, hfn, hres]
    exact trodAll_mk1 (shut_bool htb true)
  · rw [List.append_nil, hfn, hp]
    exact trodAll_below hl hb hrd' hA' hlt
  · rw [hvars, List.append_nil, hfn]
    rfl
end Abs
end Go.Proofs.Ytbldnaflffmddaa

set_option linter.unusedVariables false
namespace Go.Proofs.Ytbldnaflffmddaa
namespace Abs

/-! ### nodes that are handed in -/
theorem in64_of {n : Int} (h : (Lit.int .i64 n).wf = true) : in64 n := by
  simp only [Lit.wf, Bool.and_eq_true, decide_eq_true_eq] at h
  exact h
theorem u8_of {n : Int} (h : (Lit.int .u8 n).wf = true) : 0 ≤ n ∧ n ≤ 255 := by
  simp only [Lit.wf, Bool.and_eq_true, decide_eq_true_eq] at h
  exact h
def Ent.wf (e : Ent) : Prop := e.name.size ≤ maxLen ∧ in64 e.node
structure Node.wf (n : Node) : Prop where
  kind : in64 n.kind
  mode : in64 n.mode
  uid : in64 n.uid
  gid : in64 n.gid
  data : n.data.size ≤ maxLen
  ents : n.ents.length ≤ maxLen
  target : n.target.size ≤ maxLen
  each : ∀ e ∈ n.ents, e.wf
theorem Node.wf.len {n : Node} (h : n.wf) : n.len := by have := h.ents; simp only [maxLen] at this; unfold Node.len; omega

theorem rows_map {α : Type} {enc : α → List AVal} {Q : α → Prop} : ∀ {rows : List (List AVal)}, (∀ r ∈ rows, ∃ a, r = enc a ∧ Q a) → ∃ l : List α, rows = l.map enc ∧ ∀ a ∈ l, Q a
  | [], _ => ⟨[], rfl, fun a h => by cases h⟩
  | r :: rows, h => by
    obtain ⟨a, rfl, ha⟩ := h r List.mem_cons_self
    obtain ⟨l, rfl, hl⟩ := rows_map (rows := rows) (fun r hr => h r (List.mem_cons_of_mem _ hr))
    refine ⟨a :: l, rfl, fun x hx => ?_⟩
    rcases List.mem_cons.1 hx with rfl | hx
    · exact ha
    · exact hl x hx

theorem opens_bytes : Opens Try.prog 54 1 (fun xs => ∃ s : ByteArray, xs = [.sl (encBytes s) .no] ∧ s.size ≤ maxLen) :=
  (opens_slice (by kernel_rfl) Try.underlying54 (by decide) (opens_int (k := .u8) (by kernel_rfl) Try.underlying5)).mono fun xs ⟨rows, e, hl, hr⟩ => by
    obtain ⟨l, rfl, _⟩ := rows_map (enc := fun c : UInt8 => [AVal.sc (.int .u8 c.toNat)]) (Q := fun _ => True) (rows := rows) (fun r h => by
      obtain ⟨⟨n, rfl, hn⟩, _⟩ := hr r h
      have := u8_of hn
      refine ⟨UInt8.ofNat n.toNat, ?_, trivial⟩
      have : ((UInt8.ofNat n.toNat).toNat : Int) = n := by simp; omega
      rw [this])
    refine ⟨⟨l.toArray⟩, by rw [e]; simp [encBytes], by simpa [ByteArray.size] using hl⟩
theorem opens_ent : Opens Try.prog 83 2 (fun xs => ∃ e : Ent, xs = encEnt e ∧ e.wf) :=
  (opens_struct (rs := [(1, _), (1, _)]) (by kernel_rfl) Try.underlying83 ⟨rfl, opens_string (by kernel_rfl) Try.underlying9, rfl, opens_int (k := .i64) (by kernel_rfl) Try.underlying3, trivial⟩ rfl).mono fun xs h => by
    obtain ⟨_, _, rfl, ⟨s, rfl, hs⟩, _, _, rfl, ⟨n, rfl, hn⟩, rfl⟩ := h
    exact ⟨⟨s, n⟩, rfl, hs, in64_of hn⟩
theorem opens_ents : Opens Try.prog 77 1 (fun xs => ∃ l : List Ent, xs = [.sl (l.map encEnt) .no] ∧ l.length ≤ maxLen ∧ ∀ e ∈ l, e.wf) :=
  (opens_slice (by kernel_rfl) Try.underlying77 (by decide) opens_ent).mono fun xs ⟨rows, e, hl, hr⟩ => by
    obtain ⟨l, rfl, hw⟩ := rows_map (fun r h => (hr r h).1)
    exact ⟨l, e, by simpa using hl, hw⟩
theorem opens_node : Opens Try.prog 79 7 (fun xs => ∃ n : Node, xs = encNode n ∧ n.wf) :=
  (opens_struct (rs := [(1, _), (1, _), (1, _), (1, _), (1, _), (1, _), (1, _)]) (by kernel_rfl) Try.underlying79
    ⟨rfl, opens_int (k := .i64) (by kernel_rfl) Try.underlying3, rfl, opens_int (k := .i64) (by kernel_rfl) Try.underlying3, rfl, opens_int (k := .i64) (by kernel_rfl) Try.underlying3, rfl, opens_int (k := .i64) (by kernel_rfl) Try.underlying3,
      rfl, opens_bytes, rfl, opens_ents, rfl, opens_string (by kernel_rfl) Try.underlying9, trivial⟩ rfl).mono fun xs h => by
    obtain ⟨_, _, rfl, ⟨k, rfl, hk⟩, _, _, rfl, ⟨m, rfl, hm⟩, _, _, rfl, ⟨u, rfl, hu⟩, _, _, rfl, ⟨g, rfl, hg⟩, _, _, rfl, ⟨d, rfl, hd⟩, _, _, rfl, ⟨es, rfl, he, hew⟩, _, _, rfl, ⟨t, rfl, ht⟩, rfl⟩ := h
    exact ⟨⟨k, m, u, g, d, es, t⟩, rfl, in64_of hk, in64_of hm, in64_of hu, in64_of hg, hd, he, ht, hew⟩
theorem opens_ac : Opens Try.prog 104 9 (fun xs => ∃ a : Ac, xs = encAc a ∧ a.n.wf ∧ in64 a.i) :=
  (opens_struct (rs := [(1, _), (1, _), (7, _)]) (by kernel_rfl) Try.underlying104
    ⟨rfl, opens_int (k := .u8) (by kernel_rfl) Try.underlying5, rfl, opens_int (k := .i64) (by kernel_rfl) Try.underlying3, rfl, opens_node, trivial⟩ rfl).mono fun xs h => by
    obtain ⟨_, _, rfl, ⟨k, rfl, hk⟩, _, _, rfl, ⟨m, rfl, hm⟩, _, _, rfl, ⟨n, rfl, hn⟩, rfl⟩ := h
    have := u8_of hk
    refine ⟨⟨k.toNat, m, n⟩, ?_, hn, in64_of hm⟩
    simp only [encAc, List.cons_append, List.nil_append, List.append_nil]
    rw [show ((k.toNat : Nat) : Int) = k by omega]
theorem opens_acs : OpensV Try.prog 70 (fun x => ∃ l : List Ac, x = .sl (l.map encAc) .no ∧ l.length ≤ 9223372036854775807 ∧ ∀ a ∈ l, a.n.wf ∧ in64 a.i) :=
  (opensV_slice (by kernel_rfl) Try.underlying70 (by decide) opens_ac).mono fun x ⟨rows, e, hl, hr⟩ => by
    obtain ⟨l, rfl, hw⟩ := rows_map (fun r h => (hr r h).1)
    refine ⟨l, e, ?_, hw⟩
    simp only [maxLen, List.length_map] at hl
    omega
end Abs
theorem Try.own : ownKnob Try.prog.godebug = none := by kernel_rfl
theorem Try.laidOut : laidOutB Try.prog = true := by kernel_rfl
end Go.Proofs.Ytbldnaflffmddaa
