import Derived.Test.YtpifnlodilcgkaaA10
import Derived.Test.YtpifnlodilcgkaaV1
set_option linter.unusedVariables false
namespace Go.Proofs.Ytpifnlodilcgkaa
namespace Abs
set_option linter.unusedSimpArgs false
set_option maxRecDepth 10000
set_option maxHeartbeats 2000000
attribute [local irreducible] AOps AW AP ACalls thenQ inBlk noGoto

/-! ### packages cred, modes: who asks, and what they may -/
def encBools (l : List Bool) : List (List AVal) := l.map fun b => [.b b]
structure Cred where
  uid : Int
  gid : Int
  groups : List Int
def encCred (c : Cred) : List AVal := [.i c.uid, .i c.gid, .sl (encInts c.groups) .no]
theorem idxI_any {α : Type} {p : α → Bool} : ∀ l : List α, decide (0 ≤ idxI (l.findIdx? p)) = l.any p := fun l => by
  cases h : l.findIdx? p with
  | none =>
    rw [List.findIdx?_eq_none_iff] at h
    have : l.any p = false := by rw [List.any_eq_false]; intro x hx; rw [h x hx]; decide
    rw [this]; rfl
  | some k =>
    obtain ⟨hk, h1, _⟩ := List.findIdx?_eq_some_iff_getElem.1 h
    have : l.any p = true := by rw [List.any_eq_true]; exact ⟨_, List.getElem_mem hk, h1⟩
    rw [this]
    exact decide_eq_true (show (0 : Int) ≤ (k : Int) by omega)
theorem idxBool_c {l : List Bool} {o : Own} {x : Bool} {H : AHeap} {K : AVal → AHeap → Prop} (hl : l.length ≤ 1073741824) (hK : K (.i (idxI (l.findIdx? fun y => x == y))) H) :
    ACalls Try.prog 151 [.sl (encBools l) o, .b x] H K := by
  refine acalls_body Try.func151 rfl rfl rfl ?_
  have ll : (encBools l).length = l.length := by simp [encBools]
  repeat first|(apply x1;apply r0;apply r0)|apply w4|apply w6|apply w7|apply wb|apply w5
  refine aw_loop (fun k : Nat => k ≤ l.length ∧ ∀ j (h : j < l.length), j < k → (fun y => x == y) l[j] = false) (fun k => [(0, .sl (encBools l) o), (1, .b x), (7, .i (encBools l).length), (8, .i k)]) (fun _ => H) (fun k => l.length - k) 0 ⟨Nat.zero_le _, fun j h h' => absurd h' (Nat.not_lt_zero _)⟩ (by repeat (first | exact Fr.sub_nil _ | refine Fr.sub_cons rfl ?_)) (AHeap.sub_refl _) ?_
  rintro k ⟨hk, hall⟩
  repeat first|(apply x1;apply r0;apply r0)|apply w4|apply w6|apply w7|apply w5
  refine aw_cond rfl (fun c => ?_) (fun c => ?_)<;>first|replace c:=of_decide_eq_true c|replace c:=of_decide_eq_false c
  · have c' : k < l.length := by omega
    repeat first|(apply x1;apply r0;apply r0)|apply w4|apply w6|apply w7|apply wa|apply wb|apply w5
    refine s_index tk rfl rfl rfl rfl (by omega) (map_get rfl c') rfl ?_
    repeat first|(apply x1;apply r0;apply r0)|(apply x3;apply r0)|apply w4|apply w5
    refine aw_cond rfl (fun e => ?_) (fun e => ?_)
    · have : l.findIdx? (fun y => x == y) = some k := by
        rw [List.findIdx?_eq_some_iff_getElem]
        exact ⟨c', e, fun j hj => by have := hall j (by omega) hj; simp only at this; rw [this]; simp⟩
      rw [this] at hK
      repeat first|(apply gO;first|(apply x1;apply r0;apply r0)|apply w4)|(apply gW;first|apply w6|apply w7|apply wd)|apply w5|apply we|apply wj
      exact rt1 rfl rfl (.refl _) (AHeap.sub_refl _) hK
    · repeat first|(apply x1;apply r0;apply r0)|apply w4|(apply x6;apply r0;omega)|apply w7|apply wa|apply w5|apply wg
      exact ⟨k + 1, ⟨c', fun j h h' => by
        rcases Nat.lt_or_ge j k with h2 | h2
        · exact hall j h h2
        · have : j = k := by omega
          subst this; exact e⟩, by omega, (by repeat (first | exact Fr.sub_nil _ | refine Fr.sub_cons rfl ?_)), AHeap.sub_refl _⟩
  · have hke : k = l.length := by omega
    have : l.findIdx? (fun y => x == y) = none := by
      rw [List.findIdx?_eq_none_iff]
      intro x hx
      obtain ⟨j, hj, rfl⟩ := List.mem_iff_getElem.1 hx
      exact hall j hj (by omega)
    rw [this] at hK
    repeat first|(apply gO;first|(apply x1;apply r0;apply r0)|apply w4)|(apply gW;first|apply w6|apply w7|apply wd|apply wc)|apply w5|apply wf|apply wh
    exact rt1 rfl rfl (.refl _) (AHeap.sub_refl _) hK
theorem hasBool_c {l : List Bool} {o : Own} {x : Bool} {H : AHeap} {K : AVal → AHeap → Prop} (hl : l.length ≤ 1073741824) (hK : K (.b (l.any fun y => x == y)) H) :
    ACalls Try.prog 133 [.sl (encBools l) o, .b x] H K := by
  refine acalls_body Try.func133 rfl rfl rfl ?_
  repeat first|(apply x1;apply r0;apply r0)|(apply x9;apply r0)|apply w4|apply w6|apply w7|apply w5
  refine idxBool_c hl ?_
  rw [← idxI_any l] at hK
  repeat first|(apply x1;apply r0;apply r0)|apply w4|apply wd|apply w5
  exact rt1 rfl rfl (.refl _) (AHeap.sub_refl _) hK
theorem idxInt_c {l : List Int} {o : Own} {x : Int} {H : AHeap} {K : AVal → AHeap → Prop} (hl : l.length ≤ 1073741824) (hK : K (.i (idxI (l.findIdx? fun y => decide (x = y)))) H) :
    ACalls Try.prog 62 [.sl (encInts l) o, .i x] H K := by
  refine acalls_body Try.func62 rfl rfl rfl ?_
  have ll : (encInts l).length = l.length := by simp [encInts]
  repeat first|(apply x1;apply r0;apply r0)|apply w4|apply w6|apply w7|apply wb|apply w5
  refine aw_loop (fun k : Nat => k ≤ l.length ∧ ∀ j (h : j < l.length), j < k → (fun y => decide (x = y)) l[j] = false) (fun k => [(0, .sl (encInts l) o), (1, .i x), (7, .i (encInts l).length), (8, .i k)]) (fun _ => H) (fun k => l.length - k) 0 ⟨Nat.zero_le _, fun j h h' => absurd h' (Nat.not_lt_zero _)⟩ (by repeat (first | exact Fr.sub_nil _ | refine Fr.sub_cons rfl ?_)) (AHeap.sub_refl _) ?_
  rintro k ⟨hk, hall⟩
  repeat first|(apply x1;apply r0;apply r0)|apply w4|apply w6|apply w7|apply w5
  refine aw_cond rfl (fun c => ?_) (fun c => ?_)<;>first|replace c:=of_decide_eq_true c|replace c:=of_decide_eq_false c
  · have c' : k < l.length := by omega
    repeat first|(apply x1;apply r0;apply r0)|apply w4|apply w6|apply w7|apply wa|apply wb|apply w5
    refine s_index tk rfl rfl rfl rfl (by omega) (map_get rfl c') rfl ?_
    repeat first|(apply x1;apply r0;apply r0)|(apply x3;apply r0)|apply w4|apply w5
    refine aw_cond rfl (fun e => ?_) (fun e => ?_)
    · have : l.findIdx? (fun y => decide (x = y)) = some k := by
        rw [List.findIdx?_eq_some_iff_getElem]
        exact ⟨c', e, fun j hj => by have := hall j (by omega) hj; simp only at this; rw [this]; simp⟩
      rw [this] at hK
      repeat first|(apply gO;first|(apply x1;apply r0;apply r0)|apply w4)|(apply gW;first|apply w6|apply w7|apply wd)|apply w5|apply we|apply wj
      exact rt1 rfl rfl (.refl _) (AHeap.sub_refl _) hK
    · repeat first|(apply x1;apply r0;apply r0)|apply w4|(apply x6;apply r0;omega)|apply w7|apply wa|apply w5|apply wg
      exact ⟨k + 1, ⟨c', fun j h h' => by
        rcases Nat.lt_or_ge j k with h2 | h2
        · exact hall j h h2
        · have : j = k := by omega
          subst this; exact e⟩, by omega, (by repeat (first | exact Fr.sub_nil _ | refine Fr.sub_cons rfl ?_)), AHeap.sub_refl _⟩
  · have hke : k = l.length := by omega
    have : l.findIdx? (fun y => decide (x = y)) = none := by
      rw [List.findIdx?_eq_none_iff]
      intro x hx
      obtain ⟨j, hj, rfl⟩ := List.mem_iff_getElem.1 hx
      exact hall j hj (by omega)
    rw [this] at hK
    repeat first|(apply gO;first|(apply x1;apply r0;apply r0)|apply w4)|(apply gW;first|apply w6|apply w7|apply wd|apply wc)|apply w5|apply wf|apply wh
    exact rt1 rfl rfl (.refl _) (AHeap.sub_refl _) hK
theorem hasInt_c {l : List Int} {o : Own} {x : Int} {H : AHeap} {K : AVal → AHeap → Prop} (hl : l.length ≤ 1073741824) (hK : K (.b (l.any fun y => decide (x = y))) H) :
    ACalls Try.prog 71 [.sl (encInts l) o, .i x] H K := by
  refine acalls_body Try.func71 rfl rfl rfl ?_
  repeat first|(apply x1;apply r0;apply r0)|(apply x9;apply r0)|apply w4|apply w6|apply w7|apply w5
  refine idxInt_c hl ?_
  rw [← idxI_any l] at hK
  repeat first|(apply x1;apply r0;apply r0)|apply w4|apply wd|apply w5
  exact rt1 rfl rfl (.refl _) (AHeap.sub_refl _) hK
theorem one_c {l : List Bool} {o : Own} {H : AHeap} {K : AVal → AHeap → Prop} (hl : l.length ≤ 1073741824) (hK : K (.b (l.any id)) H) : ACalls Try.prog 107 [.sl (encBools l) o] H K := by
  refine acalls_body Try.func107 rfl rfl rfl ?_
  repeat first|(apply x1;apply r0;apply r0)|(apply x9;apply r0)|apply w4|apply w6|apply w7|apply w5
  refine hasBool_c hl ?_
  have : (l.any fun y => true == y) = l.any id := congrArg (fun f => l.any f) (funext fun y => by cases y <;> rfl)
  rw [this]
  repeat first|(apply x1;apply r0;apply r0)|apply w4|apply wd|apply w5
  exact rt1 rfl rfl (.refl _) (AHeap.sub_refl _) hK
def Cred.root (c : Cred) : Bool := decide (c.uid = 0)
theorem root_c {c : Cred} {H : AHeap} {K : AVal → AHeap → Prop} (hK : K (.b c.root) H) : ACalls Try.prog 108 [.agg (encCred c)] H K := by
  refine acalls_body Try.func108 rfl rfl rfl ?_
  repeat first|apply w6|apply w7
  refine s_box rfl rfl rfl (fun b1 hb1 => ?_); have hb := hb1; (try simp only [put_none_iff, prot_none_iff] at hb); (repeat obtain ⟨_, _, hb⟩ := hb)
  repeat first|(apply x1;apply r0;apply r0)|(apply x2;apply r0;(apply q0);apply r0)|apply w4|apply w6|apply w7|apply wd|apply w5
  exact rt1 (H' := H) rfl rfl (.refl _) (by repeat first|exact s0|(apply su1;assumption)) hK
def Cred.small (c : Cred) : Prop := c.groups.length ≤ 1073741824
def Cred.member (c : Cred) (gid : Int) : Bool := decide (gid = c.gid) || c.groups.any fun y => decide (gid = y)
theorem member_c {c : Cred} (hc : c.small) {gid : Int} {H : AHeap} {K : AVal → AHeap → Prop} (hK : K (.b (c.member gid)) H) : ACalls Try.prog 135 [.agg (encCred c), .i gid] H K := by
  refine acalls_body Try.func135 rfl rfl rfl ?_
  repeat first|apply w6|apply w7
  refine s_box rfl rfl rfl (fun b2 hb2 => ?_); have hb := hb2; (try simp only [put_none_iff, prot_none_iff] at hb); (repeat obtain ⟨_, _, hb⟩ := hb)
  repeat first|(apply x1;apply r0;apply r0)|apply w4|apply w6|apply w5
  refine aw_prot [b2] (allc (by apply q0) (allc0 _)) ?_
  refine aw_plan mixed (.take 0 (.take 1 (.take 2 (.take 3 (.take 4 (.take 5 (.take 6 (.one 7 (.one 8 (.one 9 (.take 10 .done))))))))))) (by kernel_rfl) ?_
  repeat first|(apply x9;apply r0)|(apply y1;apply r0;apply r0)|(apply y4;apply r0)|(apply y2;apply r0;apply r0;(with_reducible repeat first|apply q0|apply pg|exact mm0);apply r0)
  refine hasInt_c hc ?_
  repeat first|(apply xbs;apply r0)|(apply x9;apply r0)|apply w4|(apply y4;apply r0)
  refine one_c (l := [decide (gid = c.gid), c.groups.any fun y => decide (gid = y)]) (by simp) ?_
  repeat first|apply w4|(apply y1;apply r0;apply r0)|apply y0
  refine prot_done ?_
  repeat first|apply wd|apply w5
  refine rt1 (H' := H) rfl rfl (.refl _) (by repeat first|exact s0|(apply su1;assumption)) ?_
  unfold Cred.member at hK
  simpa using hK
def Cred.cls (c : Cred) (uid gid : Int) : Int := if uid = c.uid then 0 else if c.member gid = true then 1 else 2
theorem cclass_c {c : Cred} (hc : c.small) {uid gid : Int} {H : AHeap} {K : AVal → AHeap → Prop} (hK : K (.i (c.cls uid gid)) H) : ACalls Try.prog 110 [.agg (encCred c), .i uid, .i gid] H K := by
  refine acalls_body Try.func110 rfl rfl rfl ?_
  unfold Cred.cls at hK
  repeat first|apply w6|apply w7
  refine s_box rfl rfl rfl (fun b3 hb3 => ?_); have hb := hb3; (try simp only [put_none_iff, prot_none_iff] at hb); (repeat obtain ⟨_, _, hb⟩ := hb)
  repeat first|(apply x1;apply r0;apply r0)|(apply x2;apply r0;(apply q0);apply r0)|apply w4|apply w6|apply w7|apply wb|apply w5
  refine aw_cond rfl (fun c1 => ?_) (fun c1 => ?_)<;>first|replace c1:=of_decide_eq_true c1|replace c1:=of_decide_eq_false c1
  · rw [if_pos c1] at hK
    repeat first|(apply gO;first|(apply x1;apply r0;apply r0)|apply w4)|(apply gW;first|apply w6|apply w7|apply wd)|apply w5|apply we|apply wj
    exact rt1 (H' := H) rfl rfl (.refl _) (by repeat first|exact s0|(apply su1;assumption)) hK
  rw [if_neg c1] at hK
  repeat first|(apply x1;apply r0;apply r0)|(apply x2;apply r0;(apply q0);apply r0)|(apply x9;apply r0)|apply w6|apply w7
  refine member_c hc ?_
  repeat first|(apply x1;apply r0;apply r0)|apply w4|apply w5
  refine aw_cond rfl (fun c2 => ?_) (fun c2 => ?_)
  · rw [if_pos c2] at hK
    repeat first|(apply gO;first|(apply x1;apply r0;apply r0)|apply w4)|(apply gW;first|apply w6|apply w7|apply wd)|apply w5|apply we|apply wj
    exact rt1 (H' := H) rfl rfl (.refl _) (by repeat first|exact s0|(apply su1;assumption)) hK
  rw [if_neg (by rw [c2]; decide)] at hK
  repeat first|(apply gO;first|(apply x1;apply r0;apply r0)|apply w4)|(apply gW;first|apply w6|apply w7|apply wa|apply wd)|apply w5|apply wg
  exact rt1 (H' := H) rfl rfl (.refl _) (by repeat first|exact s0|(apply su1;assumption)) hK
/-- The three bits of one of the classes. -/
def clsBits (mode k : Int) : Int := if k = 0 then mode / 64 % 8 else if k = 1 then mode / 8 % 8 else if k = 2 then mode % 8 else 0
theorem shift_c {k : Int} (hk : 0 ≤ k ∧ k < 3) {H : AHeap} {K : AVal → AHeap → Prop} (hK : K (.i (3 * (2 - k))) H) : ACalls Try.prog 134 [.i k] H K := by
  refine acalls_body Try.func134 rfl rfl rfl ?_
  repeat first|(apply x1;apply r0;apply r0)|apply w4|(apply x7;apply r0;omega)|apply w6|apply w7|apply w5
  refine s_arith rfl rfl rfl rfl ?_
  rw [wrap_id ⟨by omega, by omega⟩]
  repeat first|(apply x1;apply r0;apply r0)|apply w4|apply wd|apply w5
  exact rt1 rfl rfl (.refl _) (AHeap.sub_refl _) hK
theorem mclass_c {mode k : Int} {H : AHeap} {K : AVal → AHeap → Prop} (hK : K (.i (clsBits mode k)) H) : ACalls Try.prog 109 [.i mode, .i k] H K := by
  refine acalls_body Try.func109 rfl rfl rfl ?_
  repeat first|(apply x1;apply r0;apply r0)|apply w4|apply w6|apply w7|apply w5
  have out : ¬ (0 ≤ k ∧ k < 3) → clsBits mode k = 0 := fun h => by
    unfold clsBits
    rw [if_neg (by omega), if_neg (by omega), if_neg (by omega)]
  refine s_gsplit rfl rfl (fun g1 => ?_) (fun g1 => ?_)<;>first|replace g1:=of_decide_eq_true g1|replace g1:=of_decide_eq_false g1
  · rw [out (by omega)] at hK
    repeat first|(apply gO;first|(apply x1;apply r0;apply r0)|apply w4|(apply w3;apply r0;apply r0))|(apply gW;first|apply w6|apply w7|(apply w8;apply r0)|apply wd)|apply w5|apply we
    exact rt1 rfl rfl (.refl _) (AHeap.sub_refl _) hK
  repeat first|(apply x1;apply r0;apply r0)|(apply x5;apply r0)|apply w4|apply w5
  refine aw_cond rfl (fun g2 => ?_) (fun g2 => ?_)<;>first|replace g2:=of_decide_eq_true g2|replace g2:=of_decide_eq_false g2
  · rw [out (by omega)] at hK
    repeat first|(apply x1;apply r0;apply r0)|apply w4|apply w6|apply w7|apply wd|apply w5|apply we
    exact rt1 rfl rfl (.refl _) (AHeap.sub_refl _) hK
  repeat first|(apply x1;apply r0;apply r0)|(apply x9;apply r0)|apply w6|apply w7|apply wa|apply w5
  refine shift_c (by omega) ?_
  have hk : k = 0 ∨ k = 1 ∨ k = 2 := by omega
  unfold clsBits at hK
  rcases hk with rfl | rfl | rfl
  · skip
    refine s_shr (q := 6) rfl rfl rfl rfl (by decide) ?_
    refine s_bits rfl rfl rfl rfl ?_
    rw [and7]
    repeat first|(apply x1;apply r0;apply r0)|apply w4|apply wd|apply w5
    exact rt1 rfl rfl (.refl _) (AHeap.sub_refl _) hK
  · skip
    refine s_shr (q := 3) rfl rfl rfl rfl (by decide) ?_
    refine s_bits rfl rfl rfl rfl ?_
    rw [and7]
    repeat first|(apply x1;apply r0;apply r0)|apply w4|apply wd|apply w5
    exact rt1 rfl rfl (.refl _) (AHeap.sub_refl _) hK
  · skip
    refine s_shr (q := 0) rfl rfl rfl rfl (by decide) ?_
    refine s_bits rfl rfl rfl rfl ?_
    rw [and7]
    repeat first|(apply x1;apply r0;apply r0)|apply w4|apply wd|apply w5
    refine rt1 rfl rfl (.refl _) (AHeap.sub_refl _) ?_
    simpa using hK
end Abs
end Go.Proofs.Ytpifnlodilcgkaa

set_option linter.unusedVariables false
namespace Go.Proofs.Ytpifnlodilcgkaa
namespace Abs
set_option linter.unusedSimpArgs false
set_option maxRecDepth 10000
set_option maxHeartbeats 2000000
attribute [local irreducible] AOps AW AP ACalls thenQ inBlk noGoto

/-! ### cred.Can, and the document's -/
def Cred.can (c : Cred) (uid gid mode want : Int) : Bool := c.root || decide (bitsR .and .i64 (clsBits mode (c.cls uid gid)) (want % 8) = want % 8)
theorem can_c {c : Cred} (hc : c.small) {uid gid mode want : Int} {H : AHeap} {K : AVal → AHeap → Prop} (hK : K (.b (c.can uid gid mode want)) H) : ACalls Try.prog 82 [.agg (encCred c), .i uid, .i gid, .i mode, .i want] H K := by
  refine acalls_body Try.func82 rfl rfl rfl ?_
  repeat first|apply w6|apply w7
  refine s_box rfl rfl rfl (fun b5 hb5 => ?_); have hb := hb5; (try simp only [put_none_iff, prot_none_iff] at hb); (repeat obtain ⟨_, _, hb⟩ := hb)
  repeat first|(apply x1;apply r0;apply r0)|apply w4|apply w6|apply w7|apply w5
  refine s_bits rfl rfl rfl rfl ?_
  rw [and7]
  repeat first|(apply x1;apply r0;apply r0)|apply w4|apply w6|apply w5
  refine aw_prot [b5] (allc (by apply q0) (allc0 _)) ?_
  refine aw_plan mixed (.take 0 (.take 2 (.take 3 (.take 4 (.take 5 (.take 8 (.take 10 (.one 1 (.one 6 (.one 7 (.take 9 (.take 11 (.one 12 (.one 13 (.take 14 .done))))))))))))))) (by kernel_rfl) ?_
  repeat first|(apply x9;apply r0)|(apply y1;apply r0;apply r0)|(apply y4;apply r0)|(apply y2;apply r0;apply r0;(with_reducible repeat first|apply q0|apply pg|exact mm0);apply r0)
  refine root_c ?_
  repeat first|(apply x9;apply r0)|apply w4|(apply y4;apply r0)
  refine cclass_c hc ?_
  repeat first|(apply x9;apply r0)|apply w4|(apply y4;apply r0)
  refine mclass_c ?_
  repeat apply w4
  refine d_bits rfl rfl rfl rfl rfl rfl ?_
  repeat first|(apply xbs;apply r0)|(apply x9;apply r0)|apply w4|(apply y1;apply r0;apply r0)|(apply y4;apply r0)
  refine one_c (l := [c.root, decide (bitsR .and .i64 (clsBits mode (c.cls uid gid)) (want % 8) = want % 8)]) (by simp) ?_
  repeat first|apply w4|(apply y1;apply r0;apply r0)|apply y0
  refine prot_done ?_
  repeat first|apply wd|apply w5
  refine rt1 (H' := H) rfl rfl (.refl _) (by repeat first|exact s0|(apply su1;assumption)) ?_
  unfold Cred.can at hK
  simpa using hK

/-! the document's chapters 01, 04 -/
end Abs
end Go.Proofs.Ytpifnlodilcgkaa
