import Derived.Test.YtpmnfbgnlanpoaaGreatGI
set_option linter.unusedVariables false
namespace Go.Proofs.YtpmnfbgnlanpoaaGreat
namespace Abs
set_option maxRecDepth 10000
attribute [local irreducible] AOps AW ACalls thenQ inBlk noGoto

/-! ### an entry that is moved: plain law -/
structure MoveF (T : Tab) (c : Cred) (p q : Found) : Prop where
  pat : TakeAt T p
  qdir : (T.at q.dir).kind = 2
  qname : nameOk q.name = true
  qat : q.node ≠ 0 → TakeAt T q
  qnone : q.node = 0 → (T.at q.dir).find q.name = 0
  ne : q.node ≠ p.node
  nb : (T.at p.node).kind = 2 → T.below 24 q.dir p.node = false
  room : q.node = 0 → q.dir ≠ p.dir → (T.at q.dir).ents.length < 8
  over : q.node ≠ 0 → T.overE c p q = 0
  pmay : T.mayTake c p = true
  qcan : T.can c q.dir 3 = true
def Tab.two (T : Tab) (p q : Found) : Tab := if q.node = 0 then T.cut p.dir p.name else (T.cut p.dir p.name).cut q.dir q.name
structure TwoF (T : Tab) (p q : Found) (B : Tab) : Prop where
  good : B.good
  room : B.room = T.room
  same : ∀ i, ∃ l, B.at i = { T.at i with ents := l }
  mem : ∀ i e, e ∈ (B.at i).ents ↔ e ∈ (T.at i).ents ∧ ¬ (i = p.dir ∧ e.name = p.name) ∧ ¬ (q.node ≠ 0 ∧ i = q.dir ∧ e.name = q.name)
  withE : (B.at q.dir).withE q.name p.node = 0
end Abs
end Go.Proofs.YtpmnfbgnlanpoaaGreat
