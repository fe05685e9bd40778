import Derived.Test.YtmokoofibnoojaaA9
import Derived.ProofKit
set_option linter.unusedVariables false
namespace Go.Proofs.Ytmokoofibnoojaa
namespace Abs
open Go.RowKit Go.ChangeShapes Go.WideShapes

/-! ### what is handed in, as abstract values -/
def g0 (W : World) : Ghost := ⟨W.heap.size, fun _ => 0, fun _ => False⟩
theorem inv0 (W : World) : Inv (g0 W) W (fun _ => none) := ⟨Nat.le_refl _, fun _ _ => ⟨rfl, fun h => h⟩, fun b o h => by cases h⟩

def Opens (P : Program) (t : TypeId) (sz : Nat) (R : List AVal → Prop) : Prop :=
  P.cellsOf t = sz ∧ ∀ (H : Type) (enc : TypeId × Value → H) (W : World) (fuel : Nat) (cs : List Value) (x : DataW H × List MemPlace), DataW.trod enc P W 0 (fun _ => true) true fuel t cs = some x → ∃ xs, VRs (g0 W) W xs cs ∧ R xs

theorem Opens.mono {P : Program} {t : TypeId} {sz : Nat} {R R' : List AVal → Prop} (h : Opens P t sz R) (k : ∀ xs, R xs → R' xs) : Opens P t sz R' :=
  ⟨h.1, fun H enc W fuel cs x hx => let ⟨xs, h1, h2⟩ := h.2 H enc W fuel cs x hx; ⟨xs, h1, k xs h2⟩⟩

theorem opens_int {P : Program} {t : TypeId} {k : IntKind} (hs : P.cellsOf t = 1) (hu : P.underlying t = some (.int k)) : Opens P t 1 (fun xs => ∃ n, xs = [.sc (.int k n)] ∧ (Lit.int k n).wf = true) :=
  ⟨hs, fun H enc W fuel cs x hx => by
    obtain ⟨n, rfl, _, hw⟩ := DataW.trod_int hu hx
    exact ⟨_, .cons (.sc trivial) .nil, n, rfl, hw⟩⟩
theorem opens_bool {P : Program} {t : TypeId} (hs : P.cellsOf t = 1) (hu : P.underlying t = some .bool) : Opens P t 1 (fun xs => ∃ b, xs = [.sc (.bool b)]) :=
  ⟨hs, fun H enc W fuel cs x hx => by
    obtain ⟨b, rfl, _⟩ := DataW.trod_bool hu hx
    exact ⟨_, .cons (.sc trivial) .nil, b, rfl⟩⟩
theorem opens_string {P : Program} {t : TypeId} (hs : P.cellsOf t = 1) (hu : P.underlying t = some .string) : Opens P t 1 (fun xs => ∃ s : ByteArray, xs = [.sc (.string s)] ∧ s.size ≤ maxLen) :=
  ⟨hs, fun H enc W fuel cs x hx => by
    obtain ⟨s, rfl, _, hw⟩ := DataW.trod_string hu hx
    exact ⟨_, .cons (.sc trivial) .nil, s, rfl, hw⟩⟩

theorem gather {α : Type} {Q : Nat → α → Prop} : ∀ n : Nat, (∀ i, i < n → ∃ r, Q i r) → ∃ l : List α, l.length = n ∧ ∀ i (h : i < l.length), Q i l[i]
  | 0, _ => ⟨[], rfl, fun i h => absurd h (Nat.not_lt_zero _)⟩
  | n + 1, h => by
    obtain ⟨l, h1, h2⟩ := gather n (fun i hi => h i (by omega))
    obtain ⟨r, hr⟩ := h n (by omega)
    refine ⟨l ++ [r], by simp [h1], fun i hi => ?_⟩
    rcases Nat.lt_or_ge i n with hin | hin
    · rw [List.getElem_append_left (by omega)]; exact h2 i (by omega)
    · have : i = n := by simp [h1] at hi; omega
      subst this
      rw [List.getElem_append_right (by omega)]
      simpa [h1] using hr

theorem opens_slice {P : Program} {t e : TypeId} {es : Nat} {R : List AVal → Prop} (hs : P.cellsOf t = 1) (hu : P.underlying t = some (.slice e)) (h0 : 0 < es) (he : Opens P e es R) :
    Opens P t 1 (fun xs => ∃ rows, xs = [.sl rows .no] ∧ rows.length ≤ maxLen ∧ ∀ r ∈ rows, R r ∧ r.length = es) :=
  ⟨hs, fun H enc W fuel cs x hx => by
    obtain ⟨hsz, hopen⟩ := he
    rcases DataW.trod_slice hu hx with ⟨rfl, _⟩ | ⟨a, len, cap, elems, rest, n, _, rfl, _, _, hlc, hcm, hlen, hel, hsp, _⟩
    · exact ⟨[.sl [] .no], .cons .nil' .nil, [], rfl, Nat.zero_le _, fun r h => by cases h⟩
    obtain ⟨hrl, hrest⟩ := hsp rfl
    have each : ∀ i, i < cap → ∃ r csi, VRs (g0 W) W r csi ∧ R r ∧ csi.length = es ∧ ∀ j, j < es → W.cell? ((a.add (i * es)).add j) = csi[j]? := fun i hi => by
      have : ∃ y, (W.cells? 0 (a.add (i * P.cellsOf e)) (P.cellsOf e)).bind (DataW.trod enc P W 0 (fun _ => true) true n e) = some y := by
        rcases Nat.lt_or_ge i len with h | h
        · exact ⟨elems[i], by rw [hel i h, List.getElem?_eq_getElem (by omega)]⟩
        · have := hrest (i - len) (by omega)
          rw [show len + (i - len) = i by omega] at this
          exact ⟨rest[i - len], by rw [this, List.getElem?_eq_getElem (by omega)]⟩
      obtain ⟨y, hy⟩ := this
      rw [Option.bind_eq_some_iff] at hy
      obtain ⟨csi, hc, ht⟩ := hy
      obtain ⟨r, hv, hr⟩ := hopen H enc W n csi y ht
      obtain ⟨_, hl, hcell⟩ := World.cells?_some hc
      rw [hsz] at hl hcell
      exact ⟨r, csi, hv, hr, hl, hcell⟩
    by_cases hc0 : cap = 0
    · subst hc0
      have : len = 0 := by omega
      subst this
      exact ⟨[.sl [] .no], .cons .zero' .nil, [], rfl, Nat.zero_le _, fun r h => by cases h⟩
    obtain ⟨b, off, spot⟩ := a
    have hspot : spot = none := by
      obtain ⟨r, csi, hv, _, hl, hcell⟩ := each 0 (by omega)
      have h1 := hcell 0 h0
      rw [List.getElem?_eq_getElem (by omega)] at h1
      have := World.cell?_spot h1
      cases spot with
      | none => rfl
      | some s => simp [Addr.add] at this
    subst hspot
    have hadd : ∀ i j, ((⟨b, off, none⟩ : Addr).add (i * es)).add j = ⟨b, off + i * es + j, none⟩ := fun i j => by rw [add_plain, add_plain]
    have hrow : hasRow W b (off + cap * es) := by
      obtain ⟨r, csi, hv, _, hl, hcell⟩ := each (cap - 1) (by omega)
      have h1 := hcell (es - 1) (by omega)
      rw [List.getElem?_eq_getElem (by omega), hadd] at h1
      unfold World.cell? at h1
      simp only at h1
      split at h1
      · rename_i c el fr hh
        simp only [Option.isSome_none, Bool.false_eq_true, if_false] at h1
        obtain ⟨hlt, _⟩ := Array.getElem?_eq_some_iff.1 h1
        refine ⟨el, c.size, by simp [World.shape?, hh], ?_⟩
        have : (cap - 1) * es + es = cap * es := by rw [← Nat.succ_mul]; congr 1; omega
        omega
      · cases h1
    obtain ⟨l, hl1, hl2⟩ := gather (Q := fun i (p : List AVal × List Value) => VRs (g0 W) W p.1 p.2 ∧ R p.1 ∧ p.2.length = es ∧ ∀ j, j < es → W.cell? ⟨b, off + i * es + j, none⟩ = p.2[j]?) len (fun i hi => by
      obtain ⟨r, csi, k1, k2, k3, k4⟩ := each i (by omega)
      exact ⟨(r, csi), k1, k2, k3, fun j hj => by rw [← hadd]; exact k4 j hj⟩)
    have hb : b < W.heap.size := by
      obtain ⟨el, m, hs, _⟩ := hrow
      rcases Nat.lt_or_ge b W.heap.size with h' | h'
      · exact h'
      · simp [World.shape?, Array.getElem?_eq_none h'] at hs
    have hrl : ∀ i (h : i < l.length), l[i].1.length = es := fun i h => by
      obtain ⟨k1, _, k3, _⟩ := hl2 i h
      rw [k1.1, k3]
    refine ⟨[.sl (l.map (·.1)) .no], .cons ?_ .nil, l.map (·.1), rfl, by simp only [List.length_map]; omega, fun r hr => ?_⟩
    · have hll : (l.map (·.1)).length = len := by rw [List.length_map, hl1]
      rw [← hll]
      refine .sl (es := es) (fun i j => ((l.getD i ([], [])).2).getD j Go.undef) (fun i h => ?_) (.inl hb) (by omega) (by omega) hrow trivial (fun i h j h' => ?_) (fun i h j h' => ?_)
      · simp only [List.getElem_map]; exact hrl i (by simpa using h)
      · have hi : i < l.length := by simpa using h
        simp only [List.getElem_map] at h'
        obtain ⟨k1, k2, k3, k4⟩ := hl2 i hi
        rw [hrl i hi] at h'
        rw [k4 j h', List.getD_eq_getElem?_getD, List.getD_eq_getElem?_getD, List.getElem?_eq_getElem hi, Option.getD_some, List.getElem?_eq_getElem (by omega)]
        rfl
      · have hi : i < l.length := by simpa using h
        simp only [List.getElem_map] at h' ⊢
        obtain ⟨k1, k2, k3, k4⟩ := hl2 i hi
        have hj : j < l[i].2.length := by rw [← k1.1]; exact h'
        have := k1.2 j h' hj
        rw [List.getD_eq_getElem?_getD, List.getD_eq_getElem?_getD, List.getElem?_eq_getElem hi, Option.getD_some, List.getElem?_eq_getElem hj]
        exact this
    · obtain ⟨p, hp, rfl⟩ := List.mem_map.1 hr
      obtain ⟨i, hi, rfl⟩ := List.getElem_of_mem hp
      exact ⟨(hl2 i hi).2.1, hrl i hi⟩⟩

/-- The fields of a struct, one behind the other. -/
def OpF (P : Program) : List Field → Nat → List (Nat × (List AVal → Prop)) → Prop
  | [], _, [] => True
  | f :: fs, off, (sz, R) :: rs => f.offset = off ∧ Opens P f.type sz R ∧ OpF P fs (off + sz) rs
  | _, _, _ => False
def Cat : List (Nat × (List AVal → Prop)) → List AVal → Prop
  | [], xs => xs = []
  | (_, R) :: rs, xs => ∃ a b, xs = a ++ b ∧ R a ∧ Cat rs b
def total : List (Nat × (List AVal → Prop)) → Nat
  | [] => 0
  | (sz, _) :: rs => sz + total rs

theorem opf_ok {P : Program} {H : Type} {enc : TypeId × Value → H} {W : World} {n : Nat} {cs : List Value} : ∀ {fs : List Field} {off : Nat} {rs : List (Nat × (List AVal → Prop))}, OpF P fs off rs → cs.length = off + total rs →
    (∀ f ∈ fs, ∃ y, DataW.trod enc P W 0 (fun _ => true) true n f.type ((cs.drop f.offset).take (P.cellsOf f.type)) = some y) → ∃ xs, VRs (g0 W) W xs (cs.drop off) ∧ Cat rs xs
  | [], off, [], _, hl, _ => ⟨[], by rw [List.drop_of_length_le (by simp [total] at hl; omega)]; exact .nil, rfl⟩
  | f :: fs, off, (sz, R) :: rs, ⟨h1, h2, h3⟩, hl, hf => by
    simp only [total] at hl
    obtain ⟨y, hy⟩ := hf f List.mem_cons_self
    rw [h1, h2.1] at hy
    obtain ⟨a, ha, hR⟩ := h2.2 H enc W n _ y hy
    obtain ⟨b, hb, hC⟩ := opf_ok h3 (by omega) (fun g hg => hf g (List.mem_cons_of_mem _ hg))
    refine ⟨a ++ b, ?_, a, b, rfl, hR, hC⟩
    have : cs.drop off = (cs.drop off).take sz ++ cs.drop (off + sz) := by rw [← List.drop_drop, List.take_append_drop]
    rw [this]
    exact ha.append hb
  | [], _, _ :: _, h, _, _ => h.elim
  | _ :: _, _, [], h, _, _ => h.elim

theorem opens_struct {P : Program} {t : TypeId} {fs : Array Field} {sz : Nat} {rs : List (Nat × (List AVal → Prop))} (hs : P.cellsOf t = sz) (hu : P.underlying t = some (.struct fs)) (hf : OpF P fs.toList 0 rs) (ht : total rs = sz) : Opens P t sz (Cat rs) :=
  ⟨hs, fun H enc W fuel cs x hx => by
    obtain ⟨xs, n, _, _, hl, hlen, hfs⟩ := DataW.trod_struct hu hx
    have := opf_ok (enc := enc) (W := W) (n := n) (cs := cs) hf (by rw [hl, hs, ht]; omega) (fun f hf => by
      obtain ⟨i, hi, rfl⟩ := List.getElem_of_mem hf
      have hi' : i < fs.size := by simpa using hi
      have := hfs i fs[i] (Array.getElem?_eq_getElem hi')
      exact ⟨xs[i], by simpa [List.getElem?_eq_getElem (show i < xs.length by omega)] using this⟩)
    simpa using this⟩
end Abs
end Go.Proofs.Ytmokoofibnoojaa
