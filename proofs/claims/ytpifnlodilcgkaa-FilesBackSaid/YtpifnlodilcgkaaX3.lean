import Derived.Test.YtpifnlodilcgkaaX1
import Derived.Test.YtpifnlodilcgkaaB0
import Derived.Lib.FieldsP
set_option linter.unusedVariables false
namespace Go.Proofs.Ytpifnlodilcgkaa
namespace Abs
set_option linter.unusedSimpArgs false
set_option maxRecDepth 10000
set_option maxHeartbeats 2000000
attribute [local irreducible] AOps AW AP ACalls thenQ inBlk noGoto

/-! ### package paths: names of a path -/
def ofL (l : List UInt8) : ByteArray := ⟨l.toArray⟩
def byL (s : ByteArray) : List UInt8 := s.data.toList
theorem ofL_byL (s : ByteArray) : ofL (byL s) = s := by cases s; simp [ofL, byL]
theorem byL_ofL (l : List UInt8) : byL (ofL l) = l := by simp [ofL, byL]
theorem byL_len (s : ByteArray) : (byL s).length = s.size := by rw [byL, Array.length_toList]; rfl
theorem ofL_inj {a b : List UInt8} : ofL a = ofL b ↔ a = b := ⟨fun h => by rw [← byL_ofL a, h, byL_ofL], fun h => by rw [h]⟩
theorem ofL_app (a b : List UInt8) : ofL a ++ ofL b = ofL (a ++ b) := by
  apply ByteArray.ext; simp [ofL]
theorem app_byL (a b : ByteArray) : byL (a ++ b) = byL a ++ byL b := by simp [byL]
theorem byL_extract (s : ByteArray) (i j : Nat) : byL (s.extract i j) = ((byL s).take j).drop i := by
  rw [byL, ByteArray.data_extract, Array.toList_extract, List.extract_eq_take_drop, List.drop_take]; rfl
theorem extract_eq (s : ByteArray) (i j : Nat) : s.extract i j = ofL (((byL s).take j).drop i) := by rw [← byL_extract, ofL_byL]
def splitL : List UInt8 → List UInt8 → List (List UInt8)
  | cur, [] => if cur = [] then [] else [cur]
  | cur, c :: r => if c = 47 then (if cur = [] then splitL [] r else cur :: splitL [] r) else splitL (cur ++ [c]) r
def namesOf (s : ByteArray) : List ByteArray := (splitL [] (byL s)).map ofL
def absOf (s : ByteArray) : Bool := decide ((byL s)[0]? = some 47)
def endOf (s : ByteArray) : Bool := decide ((byL s)[s.size - 1]? = some 47)
def splitOf (s : ByteArray) : List ByteArray := if (!(namesOf s).isEmpty && endOf s) = true then namesOf s ++ [⟨#[46]⟩] else namesOf s
theorem strs_uni (l : List ByteArray) : Uni 1 (encStrs l) := fun x hx => by
  obtain ⟨e, _, rfl⟩ := List.mem_map.1 hx; rfl
theorem strs_flat (l : List ByteArray) : flatA (encStrs l).flatten = true := by
  rw [encStrs, flatten_single]
  simp only [flatA, List.all_eq_true]
  intro x hx
  obtain ⟨c, _, rfl⟩ := List.mem_map.1 hx
  rfl
theorem splitL_len : ∀ (r cur : List UInt8), (splitL cur r).length ≤ r.length + 1
  | [], cur => by simp only [splitL]; split <;> simp
  | c :: r, cur => by
    have h1 := splitL_len r []
    have h2 := splitL_len r (cur ++ [c])
    simp only [splitL]
    split
    · split <;> simp <;> omega
    · simp; omega
theorem namesOf_len (s : ByteArray) : (namesOf s).length ≤ s.size + 1 := by
  have := splitL_len (byL s) []
  rw [byL_len] at this
  simpa [namesOf] using this
theorem splitOf_len (s : ByteArray) : (splitOf s).length ≤ s.size + 2 := by
  have := namesOf_len s
  unfold splitOf
  split
  · simp; omega
  · omega

/-! the library's FieldsFunc, at the slash -/
theorem splitL_chunk : ∀ (ch r cur : List UInt8), (∀ c ∈ ch, c ≠ 47) → splitL cur (ch ++ r) = splitL (cur ++ ch) r
  | [], r, cur, _ => by simp
  | c :: ch, r, cur, h => by
    rw [List.cons_append, splitL, if_neg (h c List.mem_cons_self), splitL_chunk ch r (cur ++ [c]) (fun x hx => h x (List.mem_cons_of_mem _ hx)), List.append_assoc]
    rfl
def curOf (s : ByteArray) (pos : Nat) : Option Nat → List UInt8
  | some a => ((byL s).take pos).drop a
  | none => []
def slashP (x : Nat) : Bool := x == 47
theorem drop_get {s : ByteArray} {pos : Nat} (h : pos < s.size) : (byL s).drop pos = s.get! pos :: (byL s).drop (pos + 1) := by
  have h1 : pos < (byL s).length := by rw [byL_len]; exact h
  rw [List.drop_eq_getElem_cons h1]
  congr 1
  exact (get_bang s pos h).symm
theorem chunk_all (s : ByteArray) : ∀ (k pos : Nat), (∀ j, j < k → pos + j < s.size ∧ 128 ≤ (s.get! (pos + j)).toNat) → ∃ ch : List UInt8, (byL s).drop pos = ch ++ (byL s).drop (pos + k) ∧ ch = ((byL s).take (pos + k)).drop pos ∧ ch.length = k ∧ ∀ c ∈ ch, c ≠ 47
  | 0, pos, _ => ⟨[], by simp, by simp, rfl, fun c h => by cases h⟩
  | k + 1, pos, h => by
    obtain ⟨h0, h1⟩ := h 0 (by omega)
    rw [Nat.add_zero] at h0 h1
    obtain ⟨ch, e1, e2, e3, e4⟩ := chunk_all s k (pos + 1) (fun j hj => by have := h (j + 1) (by omega); rw [show pos + (j + 1) = pos + 1 + j by omega] at this; exact this)
    refine ⟨s.get! pos :: ch, ?_, ?_, by simp [e3], fun c hc => ?_⟩
    · rw [drop_get h0, e1, List.cons_append, show pos + 1 + k = pos + (k + 1) by omega]
    · rw [List.drop_take, show pos + (k + 1) - pos = k + 1 by omega, drop_get h0, List.take_succ_cons, e2, List.drop_take, show pos + 1 + k - (pos + 1) = k by omega]
    · rcases List.mem_cons.1 hc with rfl | hc
      · intro e
        rw [e] at h1
        exact absurd h1 (by decide)
      · exact e4 c hc
theorem take_add {s : ByteArray} {pos k a : Nat} (ha : a ≤ pos) (hp : pos + k ≤ s.size) : ((byL s).take (pos + k)).drop a = ((byL s).take pos).drop a ++ ((byL s).take (pos + k)).drop pos := by
  rw [List.drop_take, List.drop_take, List.drop_take, show pos + k - pos = k by omega, show pos + k - a = (pos - a) + k by omega, List.take_add, List.drop_drop, show a + (pos - a) = pos by omega]
theorem spans_split (s : ByteArray) : ∀ (f pos : Nat) (st : Option Nat) (acc : List (Nat × Nat)), s.size ≤ pos + f → pos ≤ s.size → (∀ a, st = some a → a < pos) →
    (Lib.closeSpans s (Lib.spansFromP slashP s f pos st acc)).map (fun x => s.extract x.1 x.2) = acc.map (fun x => s.extract x.1 x.2) ++ (splitL (curOf s pos st) ((byL s).drop pos)).map ofL
  | f, pos, st, acc, hf, hp, hst => by
    have key : ∀ f' : Nat, f = f' ∨ True := fun _ => .inr trivial
    by_cases hlt : pos < s.size
    · obtain ⟨f, rfl⟩ : ∃ g, f = g + 1 := ⟨f - 1, by omega⟩
      simp only [Lib.spansFromP, hlt, if_true]
      have curS : ∀ (w : Nat), pos + w ≤ s.size → ∀ a, st = some a → curOf s (pos + w) st = curOf s pos st ++ ((byL s).take (pos + w)).drop pos := fun w hw a ha => by
        subst ha
        exact take_add (by have := hst a rfl; omega) hw
      rcases decode_cases s pos hlt with ⟨h1, h2, h3⟩ | ⟨h1, h2, h3, h4⟩
      · rw [h1, h3]
        by_cases hc : s.get! pos = 47
        · have hb : slashP (s.get! pos).toNat = true := by rw [hc]; rfl
          rw [hb, if_pos rfl]
          rw [drop_get hlt, splitL, if_pos hc]
          cases st with
          | some a =>
            have ha := hst a rfl
            simp only
            rw [spans_split s f (pos + 1) none (acc ++ [(a, pos)]) (by omega) (by omega) (fun _ h => by cases h)]
            have hne : curOf s pos (some a) ≠ [] := fun e => by
              have := congrArg List.length e
              simp only [curOf, List.length_drop, List.length_take, byL_len, List.length_nil] at this
              omega
            rw [if_neg hne]
            simp [curOf, extract_eq]
          | none =>
            simp only
            rw [spans_split s f (pos + 1) none acc (by omega) (by omega) (fun _ h => by cases h), if_pos (show curOf s pos none = [] from rfl)]
            rfl
        · have hb : slashP (s.get! pos).toNat = false := by
            unfold slashP
            rw [beq_eq_false_iff_ne]
            intro e
            exact hc (UInt8.toNat_inj.1 e)
          rw [hb, if_neg (by decide)]
          rw [drop_get hlt, splitL, if_neg hc]
          have one : ((byL s).take (pos + 1)).drop pos = [s.get! pos] := by
            rw [List.drop_take, show pos + 1 - pos = 1 by omega, drop_get hlt]; rfl
          cases st with
          | some a =>
            have ha := hst a rfl
            simp only
            rw [spans_split s f (pos + 1) (some a) acc (by omega) (by omega) (fun b h => by cases h; omega), curS 1 (by omega) a rfl, one]
          | none =>
            simp only
            rw [spans_split s f (pos + 1) (some pos) acc (by omega) (by omega) (fun b h => by cases h; omega)]
            rw [show curOf s (pos + 1) (some pos) = [s.get! pos] from one]
            rfl
      · have hb : slashP (Utf8.decode s pos).1 = false := by
          unfold slashP
          rw [beq_eq_false_iff_ne]
          omega
        rw [hb, if_neg (by decide)]
        generalize (Utf8.decode s pos).2 = w at h3 h4 ⊢
        obtain ⟨hw, _⟩ := h4 (w - 1) (by omega)
        obtain ⟨ch, e1, e2, e3, e4⟩ := chunk_all s w pos h4
        rw [e1, splitL_chunk ch _ _ e4]
        cases st with
        | some a =>
          have ha := hst a rfl
          simp only
          rw [spans_split s f (pos + w) (some a) acc (by omega) (by omega) (fun b h => by cases h; omega), curS w (by omega) a rfl, ← e2]
        | none =>
          simp only
          rw [spans_split s f (pos + w) (some pos) acc (by omega) (by omega) (fun b h => by cases h; omega)]
          rw [show curOf s (pos + w) (some pos) = ch from e2.symm]
          rfl
    · rw [Lib.spansFromP_end _ _ _ _ _ _ hlt]
      have hd : (byL s).drop pos = [] := List.drop_eq_nil_of_le (by rw [byL_len]; omega)
      rw [hd]
      have hpe : pos = s.size := by omega
      cases st with
      | some a =>
        have ha := hst a rfl
        have hne : curOf s pos (some a) ≠ [] := fun e => by
          have := congrArg List.length e
          simp only [curOf, List.length_drop, List.length_take, byL_len, List.length_nil] at this
          omega
        simp only [Lib.closeSpans, splitL, if_neg hne]
        simp [curOf, extract_eq, hpe]
      | none => simp [Lib.closeSpans, splitL, curOf]
theorem goFields_names (s : ByteArray) : Lib.goFieldsP slashP s = namesOf s := by
  have := spans_split s s.size 0 none [] (by omega) (Nat.zero_le _) (fun _ h => by cases h)
  simpa [Lib.goFieldsP, Lib.spansOfP, namesOf, curOf] using this
end Abs
end Go.Proofs.Ytpifnlodilcgkaa

set_option linter.unusedVariables false
namespace Go.Proofs.Ytpifnlodilcgkaa
namespace Abs
open Go.RowKit

/-! ### package paths: Split, Join -/
theorem ObjOk.at2 {g g' : Ghost} {w w' : World} (he : Ext g w g' w') {k : Nat} {p : HObj} (hl : g'.lim k = g.lim k) (hk : w'.heap[k]? = w.heap[k]?) (h : ObjOk g w k p) : ObjOk g' w' k p := by
  have hp : g'.pr k = g.pr k := by rw [he.pr]
  cases p with
  | cells cs =>
    obtain ⟨h1, c, el, h2, h3, h4⟩ := h
    exact ⟨by rw [hl, hp]; exact h1, c, el, hk.trans h2, h3, fun j a b => (h4 j a b).mono he⟩
  | ro cs =>
    obtain ⟨h1, c, el, h2, h3, h4⟩ := h
    exact ⟨by rw [hl, hp]; exact h1, c, el, hk.trans h2, h3, fun j a b => (h4 j a b).mono he⟩
  | grow e =>
    obtain ⟨h1, c, el, h2⟩ := h
    exact ⟨by rw [hl, hp]; exact h1, c, el, hk.trans h2⟩
  | amap es =>
    obtain ⟨h1, c, el, h2, h3, h4⟩ := h
    exact ⟨by rw [hl, hp]; exact h1, c, el, hk.trans h2, h3, fun j a b => ⟨(h4 j a b).1, (h4 j a b).2.mono he⟩⟩
  | iter s pos => exact ⟨by rw [hl, hp]; exact h.1, hk.trans h.2⟩
section
set_option linter.unusedSimpArgs false
set_option maxRecDepth 10000
set_option maxHeartbeats 2000000
attribute [local irreducible] AOps AW AP ACalls thenQ inBlk noGoto
theorem names1_c {r : Int} {H : AHeap} {K : AVal → AHeap → Prop} (hK : K (.b (decide (r = 47))) H) : ACalls Try.prog 130 [.sc (.int .i32 r)] H K := by
  refine acalls_body Try.func130 rfl rfl rfl ?_
  repeat first|(apply x1;apply r0;apply r0)|apply w4|apply w6|apply w7|apply wd|apply w5
  exact rt1 rfl rfl (.refl _) (AHeap.sub_refl _) hK
end
theorem names1_grows (w : World) : PredGrows Try.prog 130 #[] slashP w := fun W x hx hb => by
  have h := names1_c (r := (x : Int)) (H := fun _ => none) (K := fun v _ => v = .b (slashP x)) (by
    unfold slashP
    have : decide ((x : Int) = 47) = (x == 47) := by
      rw [show (x == 47) = decide (x = 47) from rfl]
      exact decide_eq_decide.2 (by omega)
    rw [this])
  refine (h (g0 W) W #[encR x] (inv0 W) rfl (fun j h1 h2 => ?_)).mono ?_
  · have : j = 0 := by simp at h1; exact h1
    subst this
    exact .sc trivial
  · rintro e w' ⟨cv, g', v, H', he, hext, _, hv, rfl⟩
    have : cv = .bool (slashP x) := by cases hv; rfl
    subst this
    exact ⟨he, hext.os, hext.tape, hext.output, hext.size, fun k hk => hext.old k hk⟩
theorem fields_c {s : ByteArray} (hs : s.size ≤ 4294967296) {H : AHeap} {K : AVal → AHeap → Prop} (hK : K (.sl (encStrs (namesOf s)) .full) H) :
    ACalls Try.prog 129 [.s s, .clo 130 [] []] H K := fun g w cargs hi hl hv => by
  have hc : cargs = #[.string s, .func (.func 130) #[] #[]] := by
    have hsz : cargs.size = 2 := by simpa using hl.symm
    apply Array.ext
    · simpa using hsz
    · intro j h1 h2
      have hj : j = 0 ∨ j = 1 := by omega
      rcases hj with rfl | rfl
      · have := hv 0 (by simp) h1
        simp only [List.getElem_cons_zero] at this
        simpa using this.eq_sc
      · have := hv 1 (by simp) h1
        simp only [List.getElem_cons_succ, List.getElem_cons_zero] at this
        generalize cargs[1] = cv at this
        cases this with
        | @clo _ _ _ fv cv k1 k2 _ _ =>
          have e1 : fv = #[] := Array.eq_empty_of_size_eq_zero (by simpa using k1.symm)
          have e2 : cv = #[] := Array.eq_empty_of_size_eq_zero (by simpa using k2.symm)
          subst e1 e2
          simp
  subst hc
  refine (Try.strings_FieldsFunc_grows 130 #[] (fun args w => run_callFunc (fkall rfl) args w) slashP s w hs (names1_grows w)).mono ?_
  rintro e w' ⟨A, he, hA, hown, hb⟩
  rw [goFields_names] at he hown
  obtain ⟨hxl, hcase⟩ := hown
  rcases hcase with ⟨h0, _⟩ | ⟨q, cap, cur, hq, hqb, hheap, hncap, hcap, hcs, hcur⟩
  · cases h0
  cases hq
  have hlt : A < w'.heap.size := (Array.getElem?_eq_some_iff.1 hheap).1
  have hsize := hb.size
  have hlimA : g.lim A = 0 := (hi.fresh A hA).1
  let g' : Ghost := { g with lim := fun b => if b = A then (namesOf s).length else g.lim b }
  have hlim : ∀ b, b ≠ A → g'.lim b = g.lim b := fun b hb => if_neg hb
  have hsm : ∀ b, 0 < g.lim b → b < w.heap.size := fun b h => by
    rcases Nat.lt_or_ge b w.heap.size with h' | h'
    · exact h'
    · rw [(hi.fresh b h').1] at h; omega
  have hext : Ext g w g' w' := ⟨rfl, hb.os, hb.tape, hb.output, hsize, fun b h => hb.block b (by have := hi.base_le; omega), fun b => by
      by_cases h : b = A
      · subst h; rw [hlimA]; exact Nat.zero_le _
      · rw [hlim b h]; exact Nat.le_refl _,
    fun b o h => by unfold World.cell?; simp only [hb.block b (hsm b (by omega))],
    fun b h => by unfold World.shape?; simp only [hb.block b h], rfl, fun b h => hb.block b (by
      rcases Nat.lt_or_ge b w.heap.size with h' | h'
      · exact h'
      · exact absurd h (hi.fresh b h').2)⟩
  have hinv : Inv g' w' H := ⟨by have := hi.base_le; show g.base ≤ _; omega, fun b h => by
      rw [hlim b (by omega)]; exact hi.fresh b (by omega), fun b o h => by
      have hbl := hi.lt h
      exact ⟨(hi.obj b o h).1, (hi.obj b o h).2.at2 hext (hlim b (by omega)) (hb.block b hbl)⟩⟩
  have hcell : ∀ j (h : j < (namesOf s).length), w'.cell? ⟨A, j, none⟩ = some (.string (namesOf s)[j]) := fun j h => by
    rw [cell_of_row w' A j cur _ (0, 0) hheap, ← Array.getElem?_toList]
    have h1 : (cur.toList.take ((namesOf s).length * 1))[j]? = ((namesOf s).map Value.string)[j]? := by rw [hcur]
    rw [List.getElem?_take, if_pos (by omega), List.getElem?_map, List.getElem?_eq_getElem h] at h1
    exact h1
  refine ⟨_, g', .sl (encStrs (namesOf s)) .full, H, he, hext, hinv, ?_, hK⟩
  have hel : (encStrs (namesOf s)).length = (namesOf s).length := by simp [encStrs]
  have := VR.sl (g := g') (w := w') (xs := encStrs (namesOf s)) (own := .full) (b := A) (o := 0) (es := 1) (cap := (namesOf s).length) (fun i _ => .string ((namesOf s).getD i ⟨#[]⟩)) (fun i h => by simp [encStrs]) (.inr (by
    show _ ≤ (if A = A then _ else _); rw [if_pos rfl, hel]; omega)) (by omega) (by omega)
    ⟨_, _, by unfold World.shape?; rw [hheap], by rw [hcs]; omega⟩ hel.symm
    (fun i h j hj => by
      have : j = 0 := by simp [encStrs] at hj; exact hj
      subst this
      rw [hel] at h
      rw [show 0 + i * 1 + 0 = i by omega, hcell i h]
      simp [List.getD_eq_getElem?_getD, h])
    (fun i h j hj => by
      have : j = 0 := by simp [encStrs] at hj; exact hj
      subst this
      rw [hel] at h
      have e1 : (encStrs (namesOf s))[i][0] = .s (namesOf s)[i] := by simp [encStrs]
      rw [e1, List.getD_eq_getElem?_getD, List.getElem?_eq_getElem h]
      exact .sc trivial)
  rw [hel] at this
  exact this
section
set_option linter.unusedSimpArgs false
set_option maxRecDepth 10000
set_option maxHeartbeats 2000000
attribute [local irreducible] AOps AW AP ACalls thenQ inBlk noGoto
theorem pnames_c {s : ByteArray} (hs : s.size ≤ 4294967296) {H : AHeap} {K : AVal → AHeap → Prop} (hK : K (.sl (encStrs (namesOf s)) .full) H) : ACalls Try.prog 102 [.s s] H K := by
  refine acalls_body Try.func102 rfl rfl rfl ?_
  repeat first|(apply x1;apply r0;apply r0)|(apply x9;apply r0)|apply w4|apply w6|apply w7|apply w5
  refine fields_c hs ?_
  repeat first|(apply x1;apply r0;apply r0)|apply w4|apply wd|apply w5
  exact rt1 rfl rfl (.refl _) (AHeap.sub_refl _) hK
end
end Abs
end Go.Proofs.Ytpifnlodilcgkaa

set_option linter.unusedVariables false
namespace Go.Proofs.Ytpifnlodilcgkaa
namespace Abs
set_option linter.unusedSimpArgs false
set_option maxRecDepth 10000
set_option maxHeartbeats 2000000
attribute [local irreducible] AOps AW AP ACalls thenQ inBlk noGoto
def slashS : ByteArray := ⟨#[47]⟩
theorem slashS_eq : slashS = ofL [47] := rfl
theorem take1_eq (s : ByteArray) (h : 1 ≤ s.size) : decide (s.extract 0 1 = slashS) = absOf s := by
  rw [extract_eq, slashS_eq]
  unfold absOf
  refine decide_eq_decide.2 ?_
  rw [ofL_inj]
  have hl := byL_len s
  match hb : byL s with
  | [] => rw [hb] at hl; simp at hl; omega
  | c :: r => simp
theorem last1_eq (s : ByteArray) (h : 1 ≤ s.size) : decide (s.extract (s.size - 1) s.size = slashS) = endOf s := by
  rw [extract_eq, slashS_eq]
  unfold endOf
  refine decide_eq_decide.2 ?_
  rw [ofL_inj]
  have hl := byL_len s
  rw [List.take_of_length_le (by omega)]
  have h1 : s.size - 1 < (byL s).length := by omega
  rw [List.drop_eq_getElem_cons h1, List.getElem?_eq_getElem h1, List.drop_eq_nil_of_le (by omega)]
  simp
theorem empty_abs {s : ByteArray} (h : s.size = 0) : absOf s = false ∧ endOf s = false := by
  have hl := byL_len s
  have : byL s = [] := List.length_eq_zero_iff.1 (by omega)
  unfold absOf endOf
  rw [this]
  exact ⟨rfl, rfl⟩
theorem hasPrefix_c {s : ByteArray} (hs : s.size ≤ 4294967296) {H : AHeap} {K : AVal → AHeap → Prop} (hK : K (.b (absOf s)) H) : ACalls Try.prog 150 [.s s, .s slashS] H K := by
  refine acalls_body Try.func150 rfl rfl rfl ?_
  repeat first|(apply x1;apply r0;apply r0)|apply w4|apply w6|apply w7|apply w5
  have e1 : ((slashS.size : Nat) : Int) = 1 := rfl
  rw [e1]
  refine s_gsplit rfl rfl (fun g => ?_) (fun g => ?_)<;>first|replace g:=of_decide_eq_true g|replace g:=of_decide_eq_false g
  case refine_2 =>
    have h0 : s.size = 0 := by omega
    rw [(empty_abs h0).1] at hK
    repeat first|(apply x1;apply r0;apply r0)|apply w4|(apply w3;apply r0;apply r0)|apply wd|apply w5
    exact rt1 rfl rfl (.refl _) (AHeap.sub_refl _) hK
  repeat first|(apply x1;apply r0;apply r0)|(apply x5;apply r0)
  rw [e1]
  refine s_slices tk rfl rfl rfl rfl rfl (by decide) (by decide) (by omega) ?_
  repeat first|(apply x1;apply r0;apply r0)|(apply x5;apply r0)|apply w4|apply wd|apply w5
  refine rt1 rfl rfl (.refl _) (AHeap.sub_refl _) ?_
  rw [← take1_eq s (by omega)] at hK
  exact hK
theorem hasSuffix_c {s : ByteArray} (hs : s.size ≤ 4294967296) {H : AHeap} {K : AVal → AHeap → Prop} (hK : K (.b (endOf s)) H) : ACalls Try.prog 131 [.s s, .s slashS] H K := by
  refine acalls_body Try.func131 rfl rfl rfl ?_
  repeat first|(apply x1;apply r0;apply r0)|apply w4|apply w6|apply w7|apply w5
  have e1 : ((slashS.size : Nat) : Int) = 1 := rfl
  rw [e1]
  refine s_gsplit rfl rfl (fun g => ?_) (fun g => ?_)<;>first|replace g:=of_decide_eq_true g|replace g:=of_decide_eq_false g
  case refine_2 =>
    have h0 : s.size = 0 := by omega
    rw [(empty_abs h0).2] at hK
    repeat first|(apply x1;apply r0;apply r0)|apply w4|(apply w3;apply r0;apply r0)|apply wd|apply w5
    exact rt1 rfl rfl (.refl _) (AHeap.sub_refl _) hK
  repeat first|(apply x1;apply r0;apply r0)|(apply x5;apply r0)|(apply x7;apply r0;omega)
  rw [e1]
  skip
  refine s_slices tk rfl rfl rfl rfl rfl (by omega) (by omega) (by omega) ?_
  repeat first|(apply x1;apply r0;apply r0)|(apply x5;apply r0)|apply w4|apply wd|apply w5
  refine rt1 rfl rfl (.refl _) (AHeap.sub_refl _) ?_
  rw [← last1_eq s (by omega)] at hK
  rw [show ((s.size : Int) - 1).toNat = s.size - 1 by omega, Int.toNat_natCast]
  exact hK
theorem sPrefix_c {s : ByteArray} (hs : s.size ≤ 4294967296) {H : AHeap} {K : AVal → AHeap → Prop} (hK : K (.b (absOf s)) H) : ACalls Try.prog 132 [.s s, .s slashS] H K := by
  refine acalls_body Try.func132 rfl rfl rfl ?_
  repeat first|(apply x1;apply r0;apply r0)|(apply x9;apply r0)|apply w4|apply w6|apply w7|apply w5
  refine hasPrefix_c hs ?_
  repeat first|(apply x1;apply r0;apply r0)|apply w4|apply wd|apply w5
  exact rt1 rfl rfl (.refl _) (AHeap.sub_refl _) hK
theorem sSuffix_c {s : ByteArray} (hs : s.size ≤ 4294967296) {H : AHeap} {K : AVal → AHeap → Prop} (hK : K (.b (endOf s)) H) : ACalls Try.prog 103 [.s s, .s slashS] H K := by
  refine acalls_body Try.func103 rfl rfl rfl ?_
  repeat first|(apply x1;apply r0;apply r0)|(apply x9;apply r0)|apply w4|apply w6|apply w7|apply w5
  refine hasSuffix_c hs ?_
  repeat first|(apply x1;apply r0;apply r0)|apply w4|apply wd|apply w5
  exact rt1 rfl rfl (.refl _) (AHeap.sub_refl _) hK
theorem abs_c {s : ByteArray} (hs : s.size ≤ 4294967296) {H : AHeap} {K : AVal → AHeap → Prop} (hK : K (.b (absOf s)) H) : ACalls Try.prog 104 [.s s] H K := by
  refine acalls_body Try.func104 rfl rfl rfl ?_
  repeat first|(apply x1;apply r0;apply r0)|(apply x9;apply r0)|apply w4|apply w6|apply w7|apply w5
  refine sPrefix_c hs ?_
  repeat first|(apply x1;apply r0;apply r0)|apply w4|apply wd|apply w5
  exact rt1 rfl rfl (.refl _) (AHeap.sub_refl _) hK
attribute [local irreducible] absOf endOf
def dotS : ByteArray := ⟨#[46]⟩
theorem strs_cons (l : List ByteArray) (s : ByteArray) : encStrs l ++ [[.s s]] = encStrs (l ++ [s]) := by simp [encStrs]
theorem split_c {s : ByteArray} (hs : s.size ≤ 16777216) {H : AHeap} {K : AVal → AHeap → Prop} (hK : K (.tup [.b (absOf s), .sl (encStrs (splitOf s)) .full]) H) : ACalls Try.prog 76 [.s s] H K := by
  refine acalls_body Try.func76 rfl rfl rfl ?_
  have hn := namesOf_len s
  unfold splitOf at hK
  repeat first|(apply x1;apply r0;apply r0)|(apply x9;apply r0)|apply w4|apply w6|apply w7|apply w5
  refine pnames_c (by omega) ?_
  have ll : (encStrs (namesOf s)).length = (namesOf s).length := by simp [encStrs]
  have hb : (!(namesOf s).isEmpty) = decide (0 < ((encStrs (namesOf s)).length : Int)) := by
    rw [ll]
    cases namesOf s with
    | nil => rfl
    | cons a l => simp
  rw [hb] at hK
  have hs' : s.size ≤ 4294967296 := by omega
  repeat first|(apply x1;apply r0;apply r0)|apply w4|apply w6|apply w7|apply w5
  refine s_gsplit rfl rfl (fun g => ?_) (fun g => ?_)<;>first|replace g:=of_decide_eq_true g|replace g:=of_decide_eq_false g
  case refine_2 =>
    rw [decide_eq_false g, Bool.false_and, if_neg (by decide)] at hK
    repeat first|(apply x1;apply r0;apply r0)|apply w4|(apply w3;apply r0;apply r0)|apply w6|(apply w9;apply r0)|apply wa|apply w5
    refine aw_plan mixed (.take 0 (.take 2 (.take 3 (.take 4 (.take 5 (.take 6 (.take 7 (.one 1 (.take 8 (.take 9 .done)))))))))) (by kernel_rfl) ?_
    repeat (apply y1;apply r0;apply r0)
    refine d_slicef rfl rfl rfl rfl rfl (strs_uni _) rfl rfl ?_
    repeat first|(apply x9;apply r0)|(apply y4;apply r0)
    refine abs_c hs' ?_
    repeat first|apply w4|(apply y1;apply r0;apply r0)|apply y0|apply wd|apply w5
    exact rt2 rfl rfl rfl (.refl _) (AHeap.sub_refl _) hK
  rw [decide_eq_true g, Bool.true_and] at hK
  repeat first|(apply x1;apply r0;apply r0)|(apply x5;apply r0)|(apply x9;apply r0)
  refine sSuffix_c hs' ?_
  repeat first|(apply x1;apply r0;apply r0)|apply w4|apply w5
  refine aw_cond rfl (fun e => ?_) (fun e => ?_)
  case refine_2 =>
    rw [e, if_neg (by decide)] at hK
    repeat first|apply w6|apply wa|apply w5
    refine aw_plan mixed (.take 0 (.take 2 (.take 3 (.take 4 (.take 5 (.take 6 (.take 7 (.one 1 (.take 8 (.take 9 .done)))))))))) (by kernel_rfl) ?_
    repeat (apply y1;apply r0;apply r0)
    refine d_slicef rfl rfl rfl rfl rfl (strs_uni _) rfl rfl ?_
    repeat first|(apply x9;apply r0)|(apply y4;apply r0)
    refine abs_c hs' ?_
    repeat first|apply w4|(apply y1;apply r0;apply r0)|apply y0|apply wd|apply w5
    exact rt2 rfl rfl rfl (.refl _) (AHeap.sub_refl _) hK
  rw [e, if_pos rfl] at hK
  repeat first|(apply x1;apply r0;apply r0)|(apply xbs;apply r0)|apply w7
  refine s_append tk rfl rfl rfl rfl rfl (strs_uni _) (uni_one1 _) rfl trivial trivial (by rw [ll]; simp only [List.length_cons, List.length_nil]; omega) (fun o ha he => ?_)
  rw [show ∀ v : ByteArray, encStrs (namesOf s) ++ [[.s v]] = encStrs (namesOf s ++ [v]) from fun v => strs_cons _ v]
  have hsub : H.sub ((H.free .full).own o) := sub_free ha rfl
  generalize ((H.free .full).own o) = X at hsub ⊢
  repeat first|(apply x1;apply r0;apply r0)|apply w4|apply w6|apply w5
  refine aw_plan mixed (.take 0 (.take 2 (.take 3 (.take 4 (.take 5 (.take 6 (.take 7 (.one 1 (.take 8 (.take 9 .done)))))))))) (by kernel_rfl) ?_
  repeat (apply y1;apply r0;apply r0)
  refine d_slicef rfl rfl rfl rfl rfl (strs_uni _) rfl rfl ?_
  repeat first|(apply x9;apply r0)|(apply y4;apply r0)
  refine abs_c hs' ?_
  repeat first|apply w4|(apply y1;apply r0;apply r0)|apply y0|apply wd|apply w5
  exact rt2 rfl rfl rfl (.refl _) hsub hK
end Abs
end Go.Proofs.Ytpifnlodilcgkaa

set_option linter.unusedVariables false
namespace Go.Proofs.Ytpifnlodilcgkaa
namespace Abs
set_option linter.unusedSimpArgs false
set_option maxRecDepth 10000
set_option maxHeartbeats 2000000
attribute [local irreducible] AOps AW AP ACalls thenQ inBlk noGoto
attribute [local irreducible] absOf endOf

/-! ### Join; the document's chapter 07: Names, Abs, Split -/
end Abs
end Go.Proofs.Ytpifnlodilcgkaa
