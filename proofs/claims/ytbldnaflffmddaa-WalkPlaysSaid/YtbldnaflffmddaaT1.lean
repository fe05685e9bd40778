import Derived.Test.YtbldnaflffmddaaN1
set_option linter.unusedVariables false
namespace Go.Proofs.Ytbldnaflffmddaa
namespace Abs
set_option maxRecDepth 10000
attribute [local irreducible] AOps AW AP ACalls thenQ inBlk noGoto

/-! ### package table -/
def Tab.put (T : Tab) (k : Nat) (n : Node) : Tab := ⟨T.room, T.nodes.set k n⟩
def noTok : AVal → AVal
  | .sl xs _ => .sl xs .no
  | v => v
theorem wk_noTok (v : AVal) : Wk v (noTok v) := by
  cases v <;> first | exact .refl _ | exact .sl _ _
theorem wk_noToks (l : List AVal) : Wk (.agg l) (.agg (l.map noTok)) := .agg (by simp) (fun j h h' => by simp only [List.getElem_map]; exact wk_noTok _)
theorem wk_agg {l l' : List AVal} (h : l.map noTok = l') : Wk (.agg l) (.agg l') := h ▸ wk_noToks l
end Abs
end Go.Proofs.Ytbldnaflffmddaa

set_option linter.unusedVariables false
namespace Go.Proofs.Ytbldnaflffmddaa
namespace Abs
set_option maxRecDepth 10000
attribute [local irreducible] AOps AW AP ACalls thenQ inBlk noGoto

def Tab.new (room : Int) : Tab := ⟨min (max room 1) 24, List.replicate 24 Node.zero⟩
theorem Wk.pre {l : List AVal} : ∀ (p : List AVal) {l' : List AVal}, Wk (.agg l) (.agg l') → Wk (.agg (p ++ l)) (.agg (p ++ l'))
  | [], _, h => h
  | a :: p, _, h => .cons (.refl _) (Wk.pre p h)
theorem Wk.post {q : List AVal} : ∀ {l l' : List AVal}, l.length = l'.length → Wk (.agg l) (.agg l') → Wk (.agg (l ++ q)) (.agg (l' ++ q))
  | l, l', hl, h => by
    cases h with
    | refl => exact .refl _
    | agg _ k =>
      refine .agg (by simp [hl]) (fun j h h' => ?_)
      rcases Nat.lt_or_ge j l.length with hj | hj
      · rw [List.getElem_append_left hj, List.getElem_append_left (hl ▸ hj)]; exact k j hj (hl ▸ hj)
      · rw [List.getElem_append_right hj, List.getElem_append_right (hl ▸ hj)]
        simp only [hl]; exact .refl _
theorem Wk.mid {p q l l' : List AVal} (hl : l.length = l'.length) (h : Wk (.agg l) (.agg l')) : Wk (.agg (p ++ l ++ q)) (.agg (p ++ l' ++ q)) := .post (by simp [hl]) (.pre p h)
end Abs
end Go.Proofs.Ytbldnaflffmddaa

set_option linter.unusedVariables false
namespace Go.Proofs.Ytbldnaflffmddaa
namespace Abs
set_option maxRecDepth 10000
attribute [local irreducible] AOps AW AP ACalls thenQ inBlk noGoto

theorem prot_done_put {H : AHeap} {bs : List Nat} {t : Nat} {o : HObj} {Q : AHeap → Prop} (ht : t ∉ bs) (h : Q (H.put t o)) : (∀ b, b ∈ bs → ((H.prot bs).put t o) b = H.prot bs b) ∧ Q (((H.prot bs).put t o).back H bs) :=
  ⟨fun b hb => put_ne (fun e => ht (e ▸ hb)), by
    have : ((H.prot bs).put t o).back H bs = H.put t o := by
      funext x
      unfold AHeap.back AHeap.put AHeap.prot
      by_cases hx : x ∈ bs
      · have : x ≠ t := fun e => ht (e ▸ hx)
        simp [hx, this]
      · by_cases hxt : x = t <;> simp [hx, hxt]
        intro h; exact absurd h ht
    rw [this]; exact h⟩

end Abs
end Go.Proofs.Ytbldnaflffmddaa

set_option linter.unusedVariables false
namespace Go.Proofs.Ytbldnaflffmddaa
namespace Abs
set_option maxRecDepth 10000
attribute [local irreducible] AOps AW AP ACalls thenQ inBlk noGoto

def Tab.cnt (T : Tab) : Nat → Int
  | 0 => 0
  | k + 1 => T.cnt k + if T.has (k + 1) then 1 else 0
def Tab.used (T : Tab) : Int := T.cnt T.room.toNat
end Abs
end Go.Proofs.Ytbldnaflffmddaa

set_option linter.unusedVariables false
namespace Go.Proofs.Ytbldnaflffmddaa
namespace Abs
set_option maxRecDepth 10000
attribute [local irreducible] AOps AW AP ACalls thenQ inBlk noGoto

/-! ### entries, by their directories -/
/-- What one directory tells: its number, for each of its entries that has node i. -/
def Tab.tellsOf (T : Tab) (i : Int) (k : Nat) : List Int := ((T.get (k + 1)).ents.filter fun e => decide (e.node = i)).map fun _ => (k : Int) + 1
def Tab.tells (T : Tab) (i : Int) : Nat → List Int
  | 0 => []
  | k + 1 => T.tells i k ++ if T.has (k + 1) then T.tellsOf i k else []
def Tab.links (T : Tab) (i : Int) : Int := (T.tells i T.room.toNat).length
end Abs
end Go.Proofs.Ytbldnaflffmddaa

set_option linter.unusedVariables false
namespace Go.Proofs.Ytbldnaflffmddaa
namespace Abs
set_option maxRecDepth 10000
attribute [local irreducible] AOps AW AP ACalls thenQ inBlk noGoto

def Tab.nd (T : Tab) (k : Nat) : Node := if T.has (k + 1) then T.get (k + 1) else Node.zero
end Abs
end Go.Proofs.Ytbldnaflffmddaa
