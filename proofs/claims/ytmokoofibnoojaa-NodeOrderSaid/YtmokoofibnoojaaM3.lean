import Derived.Test.YtmokoofibnoojaaM1
import Derived.Test.YtmokoofibnoojaaS1
import Derived.Test.YtmokoofibnoojaaL1
import Derived.Test.YtmokoofibnoojaaQ4
import Derived.Test.YtmokoofibnoojaaQ2
set_option linter.unusedVariables false
namespace Go.Proofs.Ytmokoofibnoojaa
namespace Abs
set_option linter.unusedSimpArgs false
set_option maxRecDepth 10000
set_option maxHeartbeats 2000000
attribute [local irreducible] AOps AW AP ACalls thenQ inBlk noGoto

/-! ### chapter 08: the document's example -/
def sA : ByteArray := ⟨#[97]⟩
def sB' : ByteArray := ⟨#[98]⟩
def sC : ByteArray := ⟨#[99]⟩
def exD : Node := ⟨2, 0, 0, 0, ⟨#[]⟩, [⟨sA, 2⟩], ⟨#[]⟩⟩
def exDB : Node := ⟨2, 0, 0, 0, ⟨#[]⟩, [⟨sA, 2⟩, ⟨sB', 3⟩], ⟨#[]⟩⟩
theorem exD_small : exD.small := ⟨by decide, by decide⟩
theorem exDB_small : exDB.small := ⟨by decide, by decide⟩
theorem exD_E1 : exD.withE sB' 3 = 0 := by decide
theorem exD_E2 : exD.withE sA 3 = 17 := by decide
theorem exD_E3 : exD.withoutE sC = 2 := by decide
theorem exD_spot : exD.spot sB' = 1 := by
  unfold Node.spot exD
  rw [List.findIdx?_cons, gtB_lt]
  rfl
theorem exD_N1 : exD.withN sB' 3 = exDB := by
  rw [Node.withN, if_pos exD_E1, exD_spot]; rfl
theorem exDB_find : exDB.find sB' = 3 := by rfl
theorem exDB_names : sortB (entNames exDB.ents) = [sA, sB'] := by
  rw [← sorted_sortB]
  show sortTo [sA, sB'] 2 = _
  simp only [sortTo, sEnd_ins, List.getD_cons_zero, List.getD_cons_succ, insR]
  rw [if_neg (show ¬ tl sB' < tl sA by decide)]
theorem ab_less : Op.bytesLess sA.toList sB'.toList = true := by rw [bless]; decide
theorem exDB_ok : nodeOk exDB = true := by
  have h : rising exDB.ents = true := by
    simp only [rising, exDB, risingFrom, ab_less]
    decide
  have h2 : idOk 0 = true := by decide
  unfold nodeOk
  rw [h]
  simp [exDB, h2]
  rfl
theorem awake08_c {H : AHeap} {K : AVal → AHeap → Prop} (hK : K (.b true) H) : ACalls Try.prog 30 [] H K := by
  refine acalls_body Try.func30 rfl rfl rfl ?_
  have nB : sB'.size < 4294967281 := by decide
  have nA : sA.size < 4294967281 := by decide
  repeat first|(apply x1;apply r0;apply r0)|(apply xbd;apply r0)|(apply xbs;apply r0)|apply w4|apply w6|apply w7|apply w5
  refine s_alloc tk rfl rfl rfl (fun b1 hb1 => ?_); have hb := hb1; (try simp only [put_none_iff, prot_none_iff] at hb); (repeat obtain ⟨_, _, hb⟩ := hb)
  (apply xst;apply r0;(apply ps);apply r0)
  rw [put_put]
  refine aops_wk (ds := encNode exD) rfl ?_
  repeat first|(apply x2;apply r0;(apply q0);apply r0)|(apply x9;apply r0)|apply w4|apply w6|apply w7|apply w5
  refine nwith_c (n := exD) (name := sB') (id := 3) exD_small nB ?_
  rw [exD_N1, exD_E1]
  repeat (apply x1;apply r0;apply r0)
  refine s_alloc tk rfl rfl rfl (fun b2 hb2 => ?_); have hb := hb2; (try simp only [put_none_iff, prot_none_iff] at hb); (repeat obtain ⟨_, _, hb⟩ := hb)
  (apply xst;apply r0;(apply ps);apply r0)
  rw [put_put]
  repeat first|(apply x1;apply r0;apply r0)|(apply x2;apply r0;(with_reducible repeat first|assumption|apply q0|apply q3);apply r0)|(apply x9;apply r0)|apply w4|apply w6|apply w7|apply w5
  refine nwith_c (n := exD) (name := sA) (id := 3) exD_small nA ?_
  rw [exD_E2]
  repeat (apply x1;apply r0;apply r0)
  refine s_alloc tk rfl rfl rfl (fun b4 hb4 => ?_); have hb := hb4; (try simp only [put_none_iff, prot_none_iff] at hb); (repeat obtain ⟨_, _, hb⟩ := hb)
  repeat first|(apply gO;first|(apply x1;apply r0;apply r0)|(apply x2;apply r0;(with_reducible repeat first|assumption|apply q0|apply ps|apply q3);apply r0)|(apply xst;apply r0;(with_reducible repeat first|assumption|apply q0|apply ps|apply q3);apply r0)|(apply x9;apply r0)|apply w4)|(apply gW;first|apply w6|apply w7)|apply w5
  refine nwithout_c (n := exD) (name := sC) exD_small ?_
  rw [exD_E3]
  repeat (apply x1;apply r0;apply r0)
  refine s_alloc tk rfl rfl rfl (fun b6 hb6 => ?_); have hb := hb6; (try simp only [put_none_iff, prot_none_iff] at hb); (repeat obtain ⟨_, _, hb⟩ := hb)
  repeat first|(apply gO;first|(apply x1;apply r0;apply r0)|(apply x2;apply r0;(with_reducible repeat first|assumption|apply q0|apply ps|apply q3);apply r0)|(apply xst;apply r0;(with_reducible repeat first|assumption|apply q0|apply ps|apply q3);apply r0)|(apply x5;apply r0)|(apply x9;apply r0)|apply w4)|(apply gW;first|apply w6|apply w7)|apply w5
  refine find_c (n := exDB) (name := sB') exDB_small ?_
  rw [exDB_find]
  repeat first|(apply x1;apply r0;apply r0)|(apply x2;apply r0;(with_reducible repeat first|assumption|apply q0|apply q3);apply r0)|(apply x5;apply r0)|(apply x9;apply r0)
  refine size_c (n := exDB) ?_
  rw [show exDB.size = 2 from rfl]
  repeat first|(apply x1;apply r0;apply r0)|(apply x2;apply r0;(with_reducible repeat first|assumption|apply q0|apply q3);apply r0)|(apply x5;apply r0)|(apply x9;apply r0)
  refine right_c (n := exDB) exDB_small ?_
  rw [exDB_ok]
  repeat first|(apply x1;apply r0;apply r0)|(apply x2;apply r0;(with_reducible repeat first|assumption|apply q0|apply q3);apply r0)|(apply x5;apply r0)|(apply x9;apply r0)
  refine names_c (n := exDB) exDB_small ?_
  rw [exDB_names]
  repeat first|(apply x5;apply r0)|(apply xbs;apply r0)|(apply x9;apply r0)
  refine rsames_c (a := [sA, sB']) (b := [sA, sB']) (by decide) ?_
  rw [decide_eq_true rfl]
  repeat first|(apply x1;apply r0;apply r0)|(apply x2;apply r0;(with_reducible repeat first|assumption|apply q0|apply q3);apply r0)|(apply x5;apply r0)|(apply x9;apply r0)
  refine same_c (a := exD) (b := exD) exD_small ?_
  rw [show exD.same exD = true by simp [Node.same]]
  repeat first|(apply x1;apply r0;apply r0)|(apply x2;apply r0;(with_reducible repeat first|assumption|apply q0|apply q3);apply r0)|(apply x5;apply r0)|(apply x9;apply r0)
  refine same_c (a := exD) (b := exDB) exD_small ?_
  rw [show exD.same exDB = false by simp [Node.same, exD, exDB]]
  repeat first|(apply x1;apply r0;apply r0)|(apply x5;apply r0)|apply w4|apply wd|apply w5
  exact rt1 (H' := H) rfl rfl (.refl _) (by repeat first|exact s0|(apply su1;assumption)) hK
end Abs
end Go.Proofs.Ytmokoofibnoojaa

set_option linter.unusedVariables false
namespace Go.Proofs.Ytmokoofibnoojaa
namespace Abs
set_option linter.unusedSimpArgs false
set_option maxRecDepth 10000
set_option maxHeartbeats 2000000
attribute [local irreducible] AOps AW AP ACalls thenQ inBlk noGoto

/-! ### NodeRight, NodeChanges -/
end Abs
end Go.Proofs.Ytmokoofibnoojaa
