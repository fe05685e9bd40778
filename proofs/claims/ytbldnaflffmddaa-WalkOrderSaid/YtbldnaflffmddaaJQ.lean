import Derived.Test.YtbldnaflffmddaaJM
set_option linter.unusedVariables false
namespace Go.Proofs.Ytbldnaflffmddaa
namespace Abs
set_option maxRecDepth 10000
attribute [local irreducible] AOps AW ACalls thenQ inBlk noGoto

/-! ### WalkOrder: plain law -/
def pthL (q : List UInt8) : List UInt8 := 114 :: q.flatMap (fun c => [47, c])
def pthB (q : List UInt8) : ByteArray := ⟨(pthL q).toArray⟩
def nmB (c : UInt8) : ByteArray := ⟨#[c]⟩
theorem tl_pth (q : List UInt8) : tl (pthB q) = pthL q := rfl
theorem flat_len (q : List UInt8) : (q.flatMap (fun c => [47, c])).length = 2 * q.length := by
  induction q with
  | nil => rfl
  | cons c q ih => rw [List.flatMap_cons, List.length_append, ih, List.length_cons]; simp only [List.length_cons, List.length_nil]; omega
theorem pth_size (q : List UInt8) : (pthB q).size = 1 + 2 * q.length := by
  show (pthL q).toArray.size = _
  rw [List.size_toArray]
  unfold pthL
  rw [List.length_cons, flat_len]; omega
theorem pthL_snoc (q : List UInt8) (c : UInt8) : pthL (q ++ [c]) = pthL q ++ [47, c] := by
  unfold pthL
  rw [List.flatMap_append]; simp
theorem pth_last (q : List UInt8) (h : ∀ c ∈ q, c ≠ 47) : (pthL q).getLast? ≠ some 47 := by
  rcases List.eq_nil_or_concat q with rfl | ⟨q', c, rfl⟩
  · decide
  · rw [List.concat_eq_append, pthL_snoc, show pthL q' ++ [47, c] = (pthL q' ++ [47]) ++ [c] by simp, List.getLast?_append]
    have := h c (by simp)
    simpa using this
theorem pth_join (q : List UInt8) (c : UInt8) (h : ∀ c ∈ q, c ≠ 47) : joinOf (pthB q) (nmB c) = pthB (q ++ [c]) := by
  refine tl_inj ?_
  rw [tl_join, tl_pth, tl_pth, pthL_snoc]
  have h1 : pthB q ≠ ⟨#[]⟩ := fun e => by have := congrArg ByteArray.size e; rw [pth_size] at this; have h2 : (⟨#[]⟩ : ByteArray).size = 0 := rfl; omega
  have h2 : endOf (pthB q) = false := by
    unfold endOf
    refine decide_eq_false fun e => pth_last q h ?_
    rw [List.getLast?_eq_getElem?, ← e]
    rfl
  unfold sepL
  rw [h2, decide_eq_false h1]
  rfl
theorem lt_append (l : List UInt8) {a b : List UInt8} (h : a < b) : l ++ a < l ++ b := by
  induction l with
  | nil => exact h
  | cons x l ih => rw [List.cons_append, List.cons_append, List.cons_lt_cons_iff]; exact .inr ⟨rfl, ih⟩
theorem pth_lt_snoc (q : List UInt8) (c : UInt8) : pthL q < pthL (q ++ [c]) := by
  rw [pthL_snoc]
  have := lt_append (pthL q) (a := []) (b := [47, c]) (List.nil_lt_cons _ _)
  rwa [List.append_nil] at this
def Div (q q' : List UInt8) : Prop := ∃ l a s b s', q = l ++ a :: s ∧ q' = l ++ b :: s' ∧ a < b
theorem Div.lt {q q' : List UInt8} (h : Div q q') : pthL q < pthL q' := by
  obtain ⟨l, a, s, b, s', rfl, rfl, hab⟩ := h
  unfold pthL
  rw [List.flatMap_append, List.flatMap_append, List.cons_lt_cons_iff]
  refine .inr ⟨rfl, lt_append _ ?_⟩
  rw [List.flatMap_cons, List.flatMap_cons]
  show 47 :: a :: _ < 47 :: b :: _
  rw [List.cons_lt_cons_iff]
  refine .inr ⟨rfl, ?_⟩
  rw [List.cons_lt_cons_iff]
  exact .inl hab
theorem Div.snoc {q q' : List UInt8} (h : Div q q') (c : UInt8) : Div (q ++ [c]) q' := by
  obtain ⟨l, a, s, b, s', rfl, rfl, hab⟩ := h
  exact ⟨l, a, s ++ [c], b, s', by simp, rfl, hab⟩
theorem Div.sib (q : List UInt8) {a b : UInt8} (h : a < b) : Div (q ++ [a]) (q ++ [b]) := ⟨q, a, [], b, [], rfl, rfl, h⟩
/-- what a whole tree below one path holds, h levels deep -/
def szT (k : Nat) : Nat → Nat
  | 0 => 1
  | h + 1 => 1 + k * szT k h
def remN (k d : Nat) (qs : List (List UInt8)) : Nat := (qs.map (fun q => szT k (d - q.length))).sum
theorem remN_cons (k d : Nat) (q : List UInt8) (qs : List (List UInt8)) : remN k d (q :: qs) = szT k (d - q.length) + remN k d qs := by simp [remN]
theorem remN_append (k d : Nat) (a b : List (List UInt8)) : remN k d (a ++ b) = remN k d a + remN k d b := by simp [remN]
theorem remN_kids (k d : Nat) (q : List UInt8) (cs : List UInt8) : remN k d (cs.map (fun c => q ++ [c])) = cs.length * szT k (d - (q.length + 1)) := by
  induction cs with
  | nil => simp [remN]
  | cons c cs ih => rw [List.map_cons, remN_cons, ih, List.length_append, List.length_cons, List.length_nil, List.length_cons, Nat.add_mul, Nat.one_mul, Nat.zero_add, Nat.add_comm]
theorem szT_pos (k : Nat) : ∀ h, 1 ≤ szT k h
  | 0 => Nat.le_refl _
  | h + 1 => Nat.le_add_right _ _
theorem remN_ge (k d : Nat) (qs : List (List UInt8)) : qs.length ≤ remN k d qs := by
  induction qs with
  | nil => exact Nat.zero_le _
  | cons q qs ih => rw [remN_cons, List.length_cons]; have := szT_pos k (d - q.length); omega
def nextQ (d : Nat) (cs : List UInt8) (q : List UInt8) (qs : List (List UInt8)) : List (List UInt8) := if q.length < d then cs.map (fun c => q ++ [c]) ++ qs else qs
structure OrdSt (d : Nat) (cs : List UInt8) (last : ByteArray) (n : Nat) (qs : List (List UInt8)) : Prop where
  cnt : n + remN cs.length d qs = szT cs.length d
  div : qs.Pairwise Div
  low : ∀ q ∈ qs, tl last < pthL q
  len : ∀ q ∈ qs, q.length ≤ d
  ns : ∀ q ∈ qs, ∀ c ∈ q, c ≠ 47
theorem OrdSt.first (d : Nat) (cs : List UInt8) : OrdSt d cs ⟨#[]⟩ 0 [[]] := by
  refine ⟨?_, List.pairwise_singleton _ _, fun q h => ?_, fun q h => ?_, fun q h => ?_⟩
  · rw [remN_cons]; simp [remN]
  · rw [List.mem_singleton.1 h]; exact List.nil_lt_cons _ _
  · rw [List.mem_singleton.1 h]; exact Nat.zero_le _
  · rw [List.mem_singleton.1 h]; intro c hc; cases hc
theorem OrdSt.next {d : Nat} {cs : List UInt8} {last : ByteArray} {n : Nat} {q : List UInt8} {qs : List (List UInt8)} (h : OrdSt d cs last n (q :: qs)) (hcs : cs.Pairwise (· < ·)) (hns : ∀ c ∈ cs, c ≠ 47) : OrdSt d cs (pthB q) (n + 1) (nextQ d cs q qs) := by
  have hd := List.pairwise_cons.1 h.div
  have hl := h.len q List.mem_cons_self
  have hc := h.cnt
  rw [remN_cons] at hc
  unfold nextQ
  split
  · rename_i hlt
    refine ⟨?_, ?_, fun p hp => ?_, fun p hp => ?_, fun p hp => ?_⟩
    · rw [remN_append, remN_kids]
      rw [show d - q.length = (d - (q.length + 1)) + 1 by omega] at hc
      have hs : szT cs.length ((d - (q.length + 1)) + 1) = 1 + cs.length * szT cs.length (d - (q.length + 1)) := rfl
      rw [hs] at hc
      omega
    · refine List.pairwise_append.2 ⟨?_, hd.2, fun a ha b hb => ?_⟩
      · rw [List.pairwise_map]
        exact hcs.imp fun hab => Div.sib q hab
      · obtain ⟨c, _, rfl⟩ := List.mem_map.1 ha
        exact (hd.1 b hb).snoc c
    · rcases List.mem_append.1 hp with hp | hp
      · obtain ⟨c, _, rfl⟩ := List.mem_map.1 hp
        exact pth_lt_snoc q c
      · exact (hd.1 p hp).lt
    · rcases List.mem_append.1 hp with hp | hp
      · obtain ⟨c, _, rfl⟩ := List.mem_map.1 hp
        rw [List.length_append, List.length_cons, List.length_nil]; omega
      · exact h.len p (List.mem_cons_of_mem _ hp)
    · rcases List.mem_append.1 hp with hp | hp
      · obtain ⟨c, hcm, rfl⟩ := List.mem_map.1 hp
        intro x hx
        rcases List.mem_append.1 hx with hx | hx
        · exact h.ns q List.mem_cons_self x hx
        · rw [List.mem_singleton.1 hx]; exact hns c hcm
      · exact h.ns p (List.mem_cons_of_mem _ hp)
  · rename_i hlt
    refine ⟨?_, hd.2, fun p hp => (hd.1 p hp).lt, fun p hp => h.len p (List.mem_cons_of_mem _ hp), fun p hp => h.ns p (List.mem_cons_of_mem _ hp)⟩
    rw [show d - q.length = 0 by omega] at hc
    have : szT cs.length 0 = 1 := rfl
    omega
theorem less_ne {a b : ByteArray} (h : tl a < tl b) : Op.bytesLess b.toList a.toList = false ∧ ¬ b = a := by
  refine ⟨by rw [bless]; exact decide_eq_false (fun q => List.lt_irrefl _ (List.lt_trans h q)), fun e => ?_⟩
  rw [e] at h; exact List.lt_irrefl _ h
/-- what the loop over the levels makes -/
def lvl (k : Nat) : Nat → Nat
  | 0 => 1
  | i + 1 => lvl k i * k
def wnt (k : Nat) : Nat → Nat
  | 0 => 1
  | i + 1 => wnt k i + lvl k (i + 1)
theorem wnt_sz (k d : Nat) (hd : d < 4) : wnt k d = szT k d := by
  obtain rfl | rfl | rfl | rfl : d = 0 ∨ d = 1 ∨ d = 2 ∨ d = 3 := by omega
  all_goals simp only [wnt, lvl, szT, Nat.mul_add, Nat.mul_one, Nat.one_mul, ← Nat.mul_assoc]
  all_goals omega
theorem lvl_le (k i : Nat) (hk : k ≤ 4) (hi : i ≤ 3) : lvl k i ≤ 64 ∧ wnt k i ≤ 85 := by
  obtain rfl | rfl | rfl | rfl | rfl : k = 0 ∨ k = 1 ∨ k = 2 ∨ k = 3 ∨ k = 4 := by omega
  all_goals (obtain rfl | rfl | rfl | rfl : i = 0 ∨ i = 1 ∨ i = 2 ∨ i = 3 := by omega)
  all_goals decide
theorem size1 {s : ByteArray} (h : s.size = 1) : ∃ c, s = nmB c := by
  obtain ⟨⟨l⟩⟩ := s
  have : l.length = 1 := h
  match l, this with
  | [c], _ => exact ⟨c, rfl⟩
theorem names_of (l : List ByteArray) (h1 : ∀ j (h : j < l.length), l[j].size = 1 ∧ ¬ l[j] = ⟨#[47]⟩) (h2 : ∀ j (h : j + 1 < l.length), Op.bytesLess l[j].toList l[j + 1].toList = true) : ∃ cs : List UInt8, l = cs.map nmB ∧ cs.Pairwise (· < ·) ∧ ∀ c ∈ cs, c ≠ 47 := by
  induction l with
  | nil => exact ⟨[], rfl, .nil, fun c hc => by cases hc⟩
  | cons s l ih =>
    obtain ⟨cs, rfl, hp, hn⟩ := ih (fun j h => h1 (j + 1) (Nat.succ_lt_succ h)) (fun j h => h2 (j + 1) (Nat.succ_lt_succ h))
    obtain ⟨hs, hs2⟩ := h1 0 (Nat.zero_lt_succ _)
    obtain ⟨c, rfl⟩ := size1 hs
    refine ⟨c :: cs, rfl, List.pairwise_cons.2 ⟨fun x hx => ?_, hp⟩, fun x hx => ?_⟩
    · cases cs with
      | nil => cases hx
      | cons c2 cs =>
        have h3 := h2 0 (by simp)
        have h4 : c < c2 := by
          have h5 : Op.bytesLess (nmB c).toList (nmB c2).toList = true := h3
          rw [bless] at h5
          have h6 : ([c] : List UInt8) < [c2] := of_decide_eq_true h5
          rw [List.cons_lt_cons_iff] at h6
          rcases h6 with h6 | ⟨_, h6⟩
          · exact h6
          · exact absurd h6 (List.not_lt_nil _)
        rcases List.mem_cons.1 hx with rfl | hx
        · exact h4
        · exact UInt8.lt_trans h4 ((List.pairwise_cons.1 hp).1 x hx)
    · rcases List.mem_cons.1 hx with rfl | hx
      · intro e; subst e; exact hs2 rfl
      · exact hn x hx
theorem names_sorted (cs : List UInt8) (hp : cs.Pairwise (· < ·)) : sortB (cs.map nmB) = cs.map nmB := sort_unique (sortB_perm _) (sortB_sorted _) (by
  rw [List.pairwise_map]
  refine hp.imp fun {a b} hab => ?_
  show ¬ (tl (nmB b) < tl (nmB a))
  intro h
  have h6 : ([b] : List UInt8) < [a] := h
  rw [List.cons_lt_cons_iff] at h6
  rcases h6 with h6 | ⟨_, h6⟩
  · exact absurd (UInt8.lt_trans hab h6) (UInt8.lt_irrefl _)
  · exact absurd h6 (List.not_lt_nil _))
end Abs
end Go.Proofs.Ytbldnaflffmddaa
