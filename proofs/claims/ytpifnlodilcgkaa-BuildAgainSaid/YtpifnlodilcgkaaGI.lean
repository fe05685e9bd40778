import Derived.Test.YtpifnlodilcgkaaGF
import Derived.Test.YtpifnlodilcgkaaGB
import Derived.Test.YtpifnlodilcgkaaM7
import Derived.Test.YtpifnlodilcgkaaZ3
set_option linter.unusedVariables false
namespace Go.Proofs.Ytpifnlodilcgkaa
namespace Abs
set_option maxRecDepth 10000
attribute [local irreducible] AOps AW ACalls thenQ inBlk noGoto

/-! ### entries that are cut and moved: plain law -/
def Node.rid (n : Node) (name : ByteArray) : Node := { n with ents := n.ents.filter fun e => !decide (e.name = name) }
theorem place_some_iff {n : Node} {name : ByteArray} : (n.place name).isSome = true ↔ ∃ e ∈ n.ents, e.name = name := by
  constructor
  · intro h
    obtain ⟨k, hk⟩ := Option.isSome_iff_exists.1 h
    obtain ⟨h1, h2⟩ := place_lt hk
    exact ⟨_, List.getElem_mem h1, h2⟩
  · rintro ⟨e, he, hn⟩
    cases hp : n.place name with
    | some k => rfl
    | none => exact absurd hn (place_none hp e he)
/-! ### names that are found may be names -/
theorem withE_ok {n : Node} {name : ByteArray} {id : Int} (hk : n.kind = 2) (hn : nameOk name = true) (hid : 1 ≤ id) (hno : ∀ e ∈ n.ents, e.name ≠ name) (hl : n.ents.length < 8) : n.withE name id = 0 := by
  have hn' := hn
  simp only [nameOk, Bool.and_eq_true, Bool.not_eq_true', decide_eq_false_iff_not, decide_eq_true_eq, Bool.or_eq_false_iff] at hn'
  obtain ⟨⟨⟨⟨h1, h2⟩, h3⟩, h4⟩, h5, h6⟩ := hn'
  have hb : badName name id = false := by
    simp only [badName, Bool.or_eq_false_iff, decide_eq_false_iff_not]
    exact ⟨⟨⟨⟨by omega, h1⟩, h3⟩, h4⟩, h5, h6⟩
  unfold Node.withE
  rw [if_neg (fun q => q hk), if_neg (by rw [hb]; decide), if_neg (by omega), if_neg (fun q => by obtain ⟨e, he, hh⟩ := place_some_iff.1 q; exact hno e he hh), if_neg (by omega)]
/-! ### what may be taken -/
structure TakeAt (T : Tab) (f : Found) : Prop where
  kind : (T.at f.dir).kind = 2
  wo : (T.at f.dir).withoutE f.name = 0
  find : (T.at f.dir).find f.name = f.node
  node : f.node ≠ 0
  has : T.has f.node = true
  ent : T.ent f.dir f.node
end Abs
end Go.Proofs.Ytpifnlodilcgkaa

set_option linter.unusedVariables false
namespace Go.Proofs.Ytpifnlodilcgkaa
namespace Abs
set_option maxRecDepth 10000
attribute [local irreducible] AOps AW ACalls thenQ inBlk noGoto

/-! ### an entry that is moved: plain law -/
structure MoveF (T : Tab) (c : Cred) (p q : Found) : Prop where
  pat : TakeAt T p
  qdir : (T.at q.dir).kind = 2
  qname : nameOk q.name = true
  qat : q.node ≠ 0 → TakeAt T q
  qnone : q.node = 0 → (T.at q.dir).find q.name = 0
  ne : q.node ≠ p.node
  nb : (T.at p.node).kind = 2 → T.below 24 q.dir p.node = false
  room : q.node = 0 → q.dir ≠ p.dir → (T.at q.dir).ents.length < 8
  over : q.node ≠ 0 → T.overE c p q = 0
  pmay : T.mayTake c p = true
  qcan : T.can c q.dir 3 = true
def Tab.two (T : Tab) (p q : Found) : Tab := if q.node = 0 then T.cut p.dir p.name else (T.cut p.dir p.name).cut q.dir q.name
structure TwoF (T : Tab) (p q : Found) (B : Tab) : Prop where
  good : B.good
  room : B.room = T.room
  same : ∀ i, ∃ l, B.at i = { T.at i with ents := l }
  mem : ∀ i e, e ∈ (B.at i).ents ↔ e ∈ (T.at i).ents ∧ ¬ (i = p.dir ∧ e.name = p.name) ∧ ¬ (q.node ≠ 0 ∧ i = q.dir ∧ e.name = q.name)
  withE : (B.at q.dir).withE q.name p.node = 0
end Abs
end Go.Proofs.Ytpifnlodilcgkaa

set_option linter.unusedVariables false
namespace Go.Proofs.Ytpifnlodilcgkaa
namespace Abs
set_option maxRecDepth 10000
attribute [local irreducible] AOps AW ACalls thenQ inBlk noGoto

/-! ### trees that stay trees: plain law -/
/-- What is taken away. -/
structure Gone (T U : Tab) (f : Found) : Prop where
  good : U.good
  room : U.room = T.room
  at_ : ∀ i, U.at i = if i = f.node ∧ T.links f.node = 1 then Node.zero else if i = f.dir then (T.at f.dir).rid f.name else T.at i
  links : ∀ i, U.links i = T.links i - if i = f.node then 1 else 0
  used : U.used = T.used - if T.links f.node = 1 then 1 else 0
  tree : U.tree
end Abs
end Go.Proofs.Ytpifnlodilcgkaa

set_option linter.unusedVariables false
namespace Go.Proofs.Ytpifnlodilcgkaa
namespace Abs
set_option maxRecDepth 10000
attribute [local irreducible] AOps AW ACalls thenQ inBlk noGoto

/-! ### what is moved: plain law -/
structure MovedTo (T U : Tab) (p q : Found) : Prop where
  good : U.good
  room : U.room = T.room
  gone : q.node ≠ 0 ∧ T.links q.node = 1 → U.at q.node = Node.zero
  same : ∀ i, ¬ (i = q.node ∧ q.node ≠ 0 ∧ T.links q.node = 1) → ∃ l, U.at i = { T.at i with ents := l }
  mem : ∀ i e, e ∈ (U.at i).ents ↔ ((i = q.dir ∧ e = ⟨q.name, p.node⟩) ∨ (e ∈ (T.at i).ents ∧ ¬ (i = p.dir ∧ e.name = p.name) ∧ ¬ (q.node ≠ 0 ∧ i = q.dir ∧ e.name = q.name)))
  links : ∀ i, U.links i = T.links i - if q.node ≠ 0 ∧ i = q.node then 1 else 0
  used : U.used = T.used - if q.node ≠ 0 ∧ T.links q.node = 1 then 1 else 0
  tree : U.tree
def Tab.wT (T : Tab) (p q : Found) : Tab := (T.two p q).put (q.dir - 1).toNat (((T.two p q).at q.dir).withN q.name p.node)
structure WT (T : Tab) (p q : Found) : Prop where
  good : (T.wT p q).good
  room : (T.wT p q).room = T.room
  same : ∀ i, ∃ l, (T.wT p q).at i = { T.at i with ents := l }
  mem : ∀ i e, e ∈ ((T.wT p q).at i).ents ↔ ((i = q.dir ∧ e = ⟨q.name, p.node⟩) ∨ (e ∈ (T.at i).ents ∧ ¬ (i = p.dir ∧ e.name = p.name) ∧ ¬ (q.node ≠ 0 ∧ i = q.dir ∧ e.name = q.name)))
  links : ∀ i, (T.wT p q).links i = T.links i - if q.node ≠ 0 ∧ i = q.node then 1 else 0
  used : (T.wT p q).used = T.used
  eq : (T.two p q).putE q.dir (((T.two p q).at q.dir).withN q.name p.node) = (T.wT p q, 0)
end Abs
end Go.Proofs.Ytpifnlodilcgkaa
