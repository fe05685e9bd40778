import Derived.Test.YtmokoofibnoojaaZ4
set_option linter.unusedVariables false
set_option linter.unusedSimpArgs false
namespace Go.Proofs.Ytmokoofibnoojaa
namespace Abs
set_option maxRecDepth 10000
attribute [local irreducible] AOps AW ACalls thenQ inBlk noGoto

/-! ### dots between names: the plain law -/
inductive Dots : List ByteArray → List ByteArray → Prop where
  | nil : Dots [] []
  | cons {l l' : List ByteArray} (x : ByteArray) : Dots l l' → Dots (x :: l) (x :: l')
  | dot {l l' : List ByteArray} (x : ByteArray) : Dots (x :: l) l' → Dots (x :: l) (dotS :: l')
theorem Dots.refl : ∀ l : List ByteArray, Dots l l
  | [] => .nil
  | x :: l => .cons x (Dots.refl l)
theorem Dots.app : ∀ (t : List ByteArray) {l l' : List ByteArray}, Dots l l' → Dots (t ++ l) (t ++ l')
  | [], _, _, h => h
  | x :: t, _, _, h => .cons x (Dots.app t h)
theorem Dots.len {l l' : List ByteArray} (h : Dots l l') : (l.length = 0 ↔ l'.length = 0) := by
  cases h <;> simp
theorem walk_dots {T : Tab} (hg : T.good) (fo : Bool) : ∀ (n : Nat) (l l' : List ByteArray) (pos : Int) (links f f' : Nat), Dots l l' → links ≤ 8 → RSt.m ⟨pos, links, l'⟩ < n → RSt.m ⟨pos, links, l⟩ < f → RSt.m ⟨pos, links, l'⟩ < f' →
    T.walk rootC fo f ⟨pos, links, l⟩ = T.walk rootC fo f' ⟨pos, links, l'⟩
  | 0, _, _, _, _, _, _, _, _, h, _, _ => absurd h (Nat.not_lt_zero _)
  | n + 1, l, l', pos, links, f, f', hd, h8, hn, hf, hf' => by
    obtain ⟨f, rfl⟩ : ∃ g, f = g + 1 := ⟨f - 1, by omega⟩
    obtain ⟨f', rfl⟩ : ∃ g, f' = g + 1 := ⟨f' - 1, by omega⟩
    cases hd with
    | nil => rw [walk_end rfl, walk_end rfl]
    | @cons l l' x hd =>
      rw [walk_step (s := ⟨pos, links, x :: l⟩) rfl, walk_step (s := ⟨pos, links, x :: l'⟩) rfl]
      have hl := hd.len
      have key : (∃ r, T.take rootC fo ⟨pos, links, x :: l⟩ x l = .inr r ∧ T.take rootC fo ⟨pos, links, x :: l'⟩ x l' = .inr r) ∨
          (∃ p k a a', T.take rootC fo ⟨pos, links, x :: l⟩ x l = .inl ⟨p, k, a⟩ ∧ T.take rootC fo ⟨pos, links, x :: l'⟩ x l' = .inl ⟨p, k, a'⟩ ∧ Dots a a') := by
        unfold Tab.take
        simp only
        by_cases k1 : ¬ (T.at pos).kind = 2
        · rw [if_pos k1, if_pos k1]; exact .inl ⟨_, rfl, rfl⟩
        rw [if_neg k1, if_neg k1]
        by_cases k2 : T.can rootC pos 1 = false
        · rw [if_pos k2, if_pos k2]; exact .inl ⟨_, rfl, rfl⟩
        rw [if_neg k2, if_neg k2]
        by_cases k3 : x = dotS
        · rw [if_pos k3, if_pos k3]; exact .inr ⟨_, _, _, _, rfl, rfl, hd⟩
        rw [if_neg k3, if_neg k3]
        by_cases k4 : x = dotdotS
        · rw [if_pos k4, if_pos k4]; exact .inr ⟨_, _, _, _, rfl, rfl, hd⟩
        rw [if_neg k4, if_neg k4]
        by_cases k5 : 12 < (x.size : Int)
        · rw [if_pos k5, if_pos k5]; exact .inl ⟨_, rfl, rfl⟩
        rw [if_neg k5, if_neg k5]
        have h0 : (0 < l.length) = (0 < l'.length) := propext (by omega)
        have h1 : (l.length = 0) = (l'.length = 0) := propext hl
        simp only [h0, h1]
        by_cases k6 : (T.at pos).find x = 0 ∧ 0 < l'.length
        · rw [if_pos k6, if_pos k6]; exact .inl ⟨_, rfl, rfl⟩
        rw [if_neg k6, if_neg k6]
        by_cases k7 : (T.at ((T.at pos).find x)).kind = 3 ∧ (fo = true ∨ 0 < l'.length)
        · rw [if_pos k7, if_pos k7]
          by_cases k8 : links = 8
          · rw [if_pos k8, if_pos k8]; exact .inl ⟨_, rfl, rfl⟩
          · rw [if_neg k8, if_neg k8]; exact .inr ⟨_, _, _, _, rfl, rfl, hd.app _⟩
        rw [if_neg k7, if_neg k7]
        by_cases k9 : l'.length = 0
        · rw [if_pos k9, if_pos k9]; exact .inl ⟨_, rfl, rfl⟩
        · rw [if_neg k9, if_neg k9]; exact .inr ⟨_, _, _, _, rfl, rfl, hd⟩
      rcases key with ⟨r, e1, e2⟩ | ⟨p, k, a, a', e1, e2, hda⟩
      · rw [e1, e2]
      · obtain ⟨m1, m2⟩ := take_m hg h8 rfl e1
        obtain ⟨m3, m4⟩ := take_m hg h8 rfl e2
        rw [e1, e2]
        exact walk_dots hg fo n a a' p k f f' hda m2 (by omega) (by omega) (by omega)
    | @dot l l' x hd =>
      have hml : RSt.m ⟨pos, links, l'⟩ < RSt.m ⟨pos, links, dotS :: l'⟩ := by
        show (8 - links) * 110 + l'.length < (8 - links) * 110 + (dotS :: l').length
        simp only [List.length_cons]; omega
      have ht : T.take rootC fo ⟨pos, links, dotS :: l'⟩ dotS l' = if ¬ (T.at pos).kind = 2 then .inr (Found.zero, 20) else .inl ⟨pos, links, l'⟩ := by
        unfold Tab.take
        by_cases k1 : ¬ (T.at pos).kind = 2
        · rw [if_pos k1, if_pos k1]
        · have hk := Decidable.of_not_not k1
          rw [if_neg k1, if_neg k1, if_neg (show ¬ T.can rootC pos 1 = false by rw [root_can, has_kind'.2 (by rw [hk]; decide)]; decide), if_pos rfl]
      rw [walk_step (s := ⟨pos, links, dotS :: l'⟩) rfl, ht]
      by_cases k1 : ¬ (T.at pos).kind = 2
      · rw [if_pos k1, walk_step (s := ⟨pos, links, x :: l⟩) rfl]
        unfold Tab.take
        rw [if_pos k1]
      · rw [if_neg k1]
        exact walk_dots hg fo n _ l' pos links (f + 1) f' hd h8 (by omega) hf (by omega)
/-- A path with a dot behind each slash. -/
def insDots : List UInt8 → List UInt8
  | [] => []
  | c :: r => if c = 47 then 47 :: 46 :: 47 :: insDots r else c :: insDots r
def tailOf (r : List UInt8) : List ByteArray := if r.getLast? = some 47 then [dotS] else []
theorem splitT_dots : ∀ (r cur : List UInt8), Dots ((splitL cur r).map ofL ++ tailOf r) ((splitL cur (insDots r)).map ofL ++ tailOf r)
  | [], cur => Dots.refl _
  | c :: r, cur => by
    by_cases hc : c = 47
    · subst hc
      have h1 : splitL cur (insDots (47 :: r)) = (if cur = [] then [] else [cur]) ++ [46] :: splitL [] (insDots r) := by
        simp only [insDots, if_true, splitL]
        split <;> simp
      have h2 : splitL cur (47 :: r) = (if cur = [] then [] else [cur]) ++ splitL [] r := by
        simp only [splitL, if_true]
        split <;> simp
      rw [h1, h2, List.map_append, List.map_append, List.append_assoc, List.append_assoc]
      refine Dots.app _ ?_
      rw [List.map_cons, List.cons_append]
      show Dots _ (dotS :: _)
      cases r with
      | nil => exact .dot dotS (Dots.refl _)
      | cons d r =>
        have ht : tailOf (47 :: d :: r) = tailOf (d :: r) := by unfold tailOf; rw [List.getLast?_cons_cons]
        have ih := splitT_dots (d :: r) []
        rw [ht]
        have hne : (splitL [] (d :: r)).map ofL ++ tailOf (d :: r) ≠ [] := by
          intro e
          have e2 := List.append_eq_nil_iff.1 e
          have hs : splitL [] (d :: r) = [] := List.map_eq_nil_iff.1 e2.1
          have hall : ∀ (q cur : List UInt8), splitL cur q = [] → ∀ x ∈ q, x = 47 := by
            intro q
            induction q with
            | nil => intro _ _ x hx; cases hx
            | cons a q ih =>
              intro cur h x hx
              simp only [splitL] at h
              split at h
              · rename_i ha
                split at h
                · rcases List.mem_cons.1 hx with rfl | hx
                  · exact ha
                  · exact ih [] h x hx
                · cases h
              · exfalso
                have hcur : ∀ (q cur : List UInt8), cur ≠ [] → splitL cur q ≠ [] := by
                  intro q
                  induction q with
                  | nil => intro cur hc; simp [splitL, hc]
                  | cons b q ih2 =>
                    intro cur hc
                    simp only [splitL]
                    split
                    · simp [hc]
                    · exact ih2 _ (by simp)
                exact hcur q _ (by simp) h
          have hl := hall _ _ hs ((d :: r).getLast (by simp)) (List.getLast_mem _)
          have : tailOf (d :: r) = [dotS] := by
            unfold tailOf
            rw [List.getLast?_eq_some_getLast (by simp), hl, if_pos rfl]
          rw [this] at e2
          cases e2.2
        generalize (splitL [] (d :: r)).map ofL ++ tailOf (d :: r) = A at ih hne
        cases A with
        | nil => exact absurd rfl hne
        | cons a A => exact .dot a ih
    · have h1 : splitL cur (insDots (c :: r)) = splitL (cur ++ [c]) (insDots r) := by simp only [insDots, if_neg hc, splitL]
      have h2 : splitL cur (c :: r) = splitL (cur ++ [c]) r := by simp only [splitL, if_neg hc]
      have ht : tailOf (c :: r) = tailOf r := by
        cases r with
        | nil => unfold tailOf; simp [hc]
        | cons d r => unfold tailOf; rw [List.getLast?_cons_cons]
      rw [h1, h2, ht]
      exact splitT_dots r _
theorem insDots_last : ∀ r : List UInt8, (insDots r).getLast? = r.getLast?
  | [] => rfl
  | [c] => by
    simp only [insDots]
    split
    · rename_i h; subst h; rfl
    · rfl
  | c :: d :: r => by
    have ih := insDots_last (d :: r)
    rw [List.getLast?_cons_cons, ← ih]
    have hne : ∃ a l, insDots (d :: r) = a :: l := by
      simp only [insDots]
      split <;> exact ⟨_, _, rfl⟩
    obtain ⟨a, l, e⟩ := hne
    rw [show insDots (c :: d :: r) = if c = 47 then 47 :: 46 :: 47 :: insDots (d :: r) else c :: insDots (d :: r) from rfl, e]
    split <;> simp
theorem endOf_last (s : ByteArray) : endOf s = decide ((byL s).getLast? = some 47) := by
  unfold endOf
  refine decide_eq_decide.2 ?_
  rw [List.getLast?_eq_getElem?, byL_len]
theorem splitOf_tail (s : ByteArray) : splitOf s = if (namesOf s).isEmpty = true then [] else namesOf s ++ tailOf (byL s) := by
  unfold splitOf tailOf
  rw [endOf_last]
  cases h : namesOf s with
  | nil => simp
  | cons a l =>
    by_cases e : (byL s).getLast? = some 47
    · rw [if_pos e, decide_eq_true e]; simp; rfl
    · rw [if_neg e, decide_eq_false e]; simp
theorem insDots_len : ∀ r : List UInt8, (insDots r).length ≤ 3 * r.length
  | [] => Nat.le_refl _
  | c :: r => by
    have := insDots_len r
    simp only [insDots]
    split <;> simp <;> omega
theorem insDots_has (b : UInt8) (h1 : b ≠ 47) (h2 : b ≠ 46) : ∀ r : List UInt8, (insDots r).contains b = r.contains b
  | [] => rfl
  | c :: r => by
    have ih := insDots_has b h1 h2 r
    simp only [insDots]
    split
    · rename_i e
      subst e
      rw [List.contains_cons, List.contains_cons, List.contains_cons, List.contains_cons, ih, show (b == 47) = false from beq_eq_false_iff_ne.2 h1, show (b == 46) = false from beq_eq_false_iff_ne.2 h2]
      rfl
    · rw [List.contains_cons, List.contains_cons, ih]
def dotted (s : ByteArray) : ByteArray := ofL (insDots (byL s))
theorem dotted_size (s : ByteArray) : (dotted s).size ≤ 3 * s.size := by
  rw [← byL_len, dotted, byL_ofL, ← byL_len]
  exact insDots_len _
theorem dotted_ne {s : ByteArray} (h : s ≠ ⟨#[]⟩) : dotted s ≠ ⟨#[]⟩ := fun e => by
  have h1 := (ofL_nil _).1 e
  have h2 : byL s ≠ [] := fun e => h (by rw [← ofL_byL s, e]; rfl)
  cases hb : byL s with
  | nil => exact h2 hb
  | cons c r =>
    rw [hb] at h1
    simp only [insDots] at h1
    split at h1 <;> cases h1
theorem fits_dotted {T : Tab} {s : ByteArray} (h : s ≠ ⟨#[]⟩) (hs : s.size ≤ 20) : T.fitsE (dotted s) = T.fitsE s := by
  have h1 := dotted_size s
  have h2 : hasB (dotted s) 0 = hasB s 0 := by
    unfold hasB
    have := insDots_has 0 (by decide) (by decide) (byL s)
    rw [show (dotted s).data.toList = insDots (byL s) from byL_ofL _]
    exact this
  unfold Tab.fitsE
  rw [if_neg (dotted_ne h), if_neg h, if_neg (show ¬ 64 < ((dotted s).size:Int) by omega), if_neg (show ¬ 64 < (s.size:Int) by omega), h2]
theorem names_empty_walk {T : Tab} (hg : T.good) (ht : T.tree) (fo : Bool) : T.walk rootC fo 2000 ⟨1, 0, [dotS]⟩ = T.walk rootC fo 2000 ⟨1, 0, []⟩ := by
  rw [walk_end (s := ⟨1, 0, []⟩) rfl, walk_step (s := ⟨1, 0, [dotS]⟩) rfl]
  have : T.take rootC fo ⟨1, 0, [dotS]⟩ dotS [] = .inl ⟨1, 0, []⟩ := by
    unfold Tab.take
    rw [if_neg (fun h => h ht.root), if_neg (show ¬ T.can rootC 1 1 = false by rw [root_can, has_kind'.2 (by rw [ht.root]; decide)]; decide), if_pos rfl]
  rw [this]
  show T.walk rootC fo 1999 _ = _
  rw [walk_end rfl]
theorem resolve_dots {T : Tab} (hg : T.good) (ht : T.tree) {s : ByteArray} (h : s ≠ ⟨#[]⟩) (hs : s.size ≤ 20) (fo : Bool) : T.resolve rootC (dotted s) fo = T.resolve rootC s fo := by
  unfold Tab.resolve
  rw [fits_dotted h hs]
  split
  case isFalse => rfl
  rename_i hf
  have hb : byL s ≠ [] := fun e => h (by rw [← ofL_byL s, e]; rfl)
  have hD := splitT_dots (byL s) []
  have htl : tailOf (byL (dotted s)) = tailOf (byL s) := by unfold tailOf; rw [dotted, byL_ofL, insDots_last]
  have e2 : namesOf (dotted s) = (splitL [] (insDots (byL s))).map ofL := by unfold namesOf dotted; rw [byL_ofL]
  have m2 := start_m (T := T) (path := dotted s) (by rw [fits_dotted h hs]; exact hf) 1
  have m1 := start_m (T := T) (path := s) hf 1
  rw [splitOf_tail, htl] at m2 ⊢
  rw [splitOf_tail] at m1 ⊢
  rw [e2] at m2 ⊢
  have hn2 : ((splitL [] (insDots (byL s))).map ofL).isEmpty = true → ((splitL [] (insDots (byL s))).map ofL) = [] := fun q => List.isEmpty_iff.1 q
  by_cases n1 : (namesOf s).isEmpty = true
  · rw [if_pos n1]
    have hne : namesOf s = [] := List.isEmpty_iff.1 n1
    have hnm : (splitL [] (byL s)).map ofL = [] := hne
    rw [hnm, List.nil_append] at hD
    -- all slashes: the one dot at the end
    have hlast : tailOf (byL s) = [dotS] := by
      cases hD' : tailOf (byL s) with
      | nil =>
        rw [hD'] at hD
        exfalso
        have hl := hD.len.1 rfl
        rw [List.append_nil] at hl
        have : splitL [] (insDots (byL s)) = [] := List.map_eq_nil_iff.1 (List.length_eq_zero_iff.1 hl)
        cases hbb : byL s with
        | nil => exact hb hbb
        | cons c r =>
          rw [hbb] at this hnm
          simp only [insDots] at this
          split at this
          · simp [splitL] at this
          · rename_i hc
            simp only [splitL, if_neg hc] at hnm
            have hcur : ∀ (q cur : List UInt8), cur ≠ [] → splitL cur q ≠ [] := by
              intro q
              induction q with
              | nil => intro cur hc; simp [splitL, hc]
              | cons b q ih2 =>
                intro cur hc
                simp only [splitL]
                split
                · simp [hc]
                · exact ih2 _ (by simp)
            exact hcur r _ (by simp) (List.map_eq_nil_iff.1 hnm)
      | cons a A =>
        unfold tailOf at hD'
        split at hD'
        · exact hD'.symm
        · cases hD'
    rw [hlast] at hD m2 ⊢
    have hn : ¬ ((splitL [] (insDots (byL s))).map ofL).isEmpty = true := fun q => by
      cases hbb : byL s with
      | nil => exact hb hbb
      | cons c r =>
        have hq := hn2 q
        rw [hbb] at hq hnm
        simp only [insDots] at hq
        split at hq
        · simp [splitL] at hq
        · rename_i hc
          simp only [splitL, if_neg hc] at hnm hq
          have hcur : ∀ (q cur : List UInt8), cur ≠ [] → splitL cur q ≠ [] := by
            intro q
            induction q with
            | nil => intro cur hc; simp [splitL, hc]
            | cons b q ih2 =>
              intro cur hc
              simp only [splitL]
              split
              · simp [hc]
              · exact ih2 _ (by simp)
          exact hcur r _ (by simp) (List.map_eq_nil_iff.1 hnm)
    rw [if_neg hn] at m2 ⊢
    rw [← names_empty_walk hg ht fo]
    exact (walk_dots hg fo 2000 _ _ 1 0 2000 2000 hD (Nat.zero_le _) m2 (by decide) m2).symm
  · rw [if_neg n1] at m1 ⊢
    have hn : ¬ ((splitL [] (insDots (byL s))).map ofL).isEmpty = true := fun q => by
      have hq := hn2 q
      have hl := hD.len
      rw [hq] at hD hl
      have hns : namesOf s = (splitL [] (byL s)).map ofL := rfl
      rw [← hns] at hD
      rw [List.nil_append] at hD
      -- the names are not fewer than one: a dotted list has them all
      have hsub : ∀ {l l' : List ByteArray}, Dots l l' → ∀ x ∈ l, x ∈ l' := by
        intro l l' hd
        induction hd with
        | nil => intro x hx; exact hx
        | cons y _ ih =>
          intro x hx
          rcases List.mem_cons.1 hx with rfl | hx
          · exact List.mem_cons_self
          · exact List.mem_cons_of_mem _ (ih x hx)
        | dot y _ ih => intro x hx; exact List.mem_cons_of_mem _ (ih x hx)
      cases hbb : byL s with
      | nil => exact hb hbb
      | cons c r =>
        have hq2 := List.map_eq_nil_iff.1 hq
        rw [hbb] at hq2
        simp only [insDots] at hq2
        split at hq2
        · simp [splitL] at hq2
        · rename_i hc
          simp only [splitL, if_neg hc] at hq2
          have hcur : ∀ (q cur : List UInt8), cur ≠ [] → splitL cur q ≠ [] := by
            intro q
            induction q with
            | nil => intro cur hc; simp [splitL, hc]
            | cons b q ih2 =>
              intro cur hc
              simp only [splitL]
              split
              · simp [hc]
              · exact ih2 _ (by simp)
          exact hcur _ _ (by simp) hq2
    rw [if_neg hn] at m2 ⊢
    exact (walk_dots hg fo 2000 _ _ 1 0 2000 2000 hD (Nat.zero_le _) m2 m1 m2).symm
theorem slash_path (s : ByteArray) : byL (slashS ++ s) = 47 :: byL s := by rw [app_byL]; rfl
theorem resolve_slash {T : Tab} {s : ByteArray} (h : s ≠ ⟨#[]⟩) (hs : s.size ≤ 20) (c : Cred) (fo : Bool) : T.resolve c (slashS ++ s) fo = T.resolve c s fo := by
  have hb : byL s ≠ [] := fun e => h (by rw [← ofL_byL s, e]; rfl)
  have hsz : (slashS ++ s).size = s.size + 1 := by rw [← byL_len, slash_path, List.length_cons, byL_len]
  have hn : namesOf (slashS ++ s) = namesOf s := by unfold namesOf; rw [slash_path]; simp [splitL]
  have htl : tailOf (byL (slashS ++ s)) = tailOf (byL s) := by
    rw [slash_path]
    cases hbb : byL s with
    | nil => exact absurd hbb hb
    | cons d r => unfold tailOf; rw [List.getLast?_cons_cons]
  have hsp : splitOf (slashS ++ s) = splitOf s := by rw [splitOf_tail, splitOf_tail, hn, htl]
  have hne : slashS ++ s ≠ ⟨#[]⟩ := fun e => by have := congrArg byL e; rw [slash_path] at this; cases this
  have hf : T.fitsE (slashS ++ s) = T.fitsE s := by
    have h0 : hasB (slashS ++ s) 0 = hasB s 0 := by
      unfold hasB
      rw [show (slashS ++ s).data.toList = 47 :: s.data.toList from slash_path s]
      simp
    unfold Tab.fitsE
    rw [if_neg hne, if_neg h, if_neg (show ¬ 64 < ((slashS ++ s).size:Int) by omega), if_neg (show ¬ 64 < (s.size:Int) by omega), h0]
  unfold Tab.resolve
  rw [hf, hsp]
theorem resolve_only {T : Tab} (ht : T.tree) (c : Cred) (fo : Bool) : T.resolve c slashS fo = (⟨1, ⟨#[]⟩, 1⟩, 0) ∧ T.resolve c ⟨#[]⟩ fo = (Found.zero, 2) := by
  constructor
  · have hf : T.fitsE slashS = 0 := by
      unfold Tab.fitsE
      rw [if_neg (by decide), if_neg (by decide), if_neg (by decide), if_pos (has_kind'.2 (by rw [ht.root]; decide))]
    unfold Tab.resolve
    rw [if_pos hf]
    exact walk_end (f := 1999) rfl
  · rfl
end Abs
end Go.Proofs.Ytmokoofibnoojaa
