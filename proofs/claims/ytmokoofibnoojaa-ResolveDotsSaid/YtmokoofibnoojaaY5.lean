import Derived.Test.YtmokoofibnoojaaY2
import Derived.Test.YtmokoofibnoojaaZ2
import Derived.Test.YtmokoofibnoojaaZ5
set_option linter.unusedVariables false
namespace Go.Proofs.Ytmokoofibnoojaa
namespace Abs
set_option linter.unusedSimpArgs false
set_option maxRecDepth 10000
set_option maxHeartbeats 2000000
attribute [local irreducible] AOps AW AP ACalls thenQ inBlk noGoto

/-! ### ResolveDots -/
theorem insDots_app (c : UInt8) : ∀ l : List UInt8, insDots (l ++ [c]) = insDots l ++ insDots [c]
  | [] => rfl
  | d :: l => by
    have ih := insDots_app c l
    simp only [List.cons_append, insDots]
    simp only [insDots] at ih
    split <;> simp [ih]
theorem insDots_step {s : ByteArray} {k : Nat} (h : k < s.size) : insDots ((byL s).take (k + 1)) = insDots ((byL s).take k) ++ insDots [(byL s)[k]'(by rw [byL_len]; exact h)] := by
  rw [← insDots_app, List.take_append_getElem]
theorem insDots_size (s : ByteArray) (k : Nat) : (ofL (insDots ((byL s).take k))).size ≤ 3 * s.size := by
  rw [← byL_len, byL_ofL, ← byL_len s]
  have h1 := insDots_len ((byL s).take k)
  have h2 : ((byL s).take k).length ≤ (byL s).length := List.length_take_le' _ _
  omega
theorem foundEq (f : Found) : (decide (f.dir = f.dir) && (decide (f.name = f.name) && (decide (f.node = f.node) && true))) = true := by simp
theorem resolveDots_c {room : Int} {l : List Raw} (hl : l.length ≤ 9223372036854775807) {path : ByteArray} {follow : Bool} {H : AHeap} {K : AVal → AHeap → Prop} (hK : K (.b true) H) :
    ACalls Try.prog 6 [.i room, .sl (encRaws l) .no, .s path, .b follow] H K := by
  refine acalls_body Try.func6 rfl rfl rfl ?_
  repeat first|(apply x1;apply r0;apply r0)|(apply x9;apply r0)|apply w4|apply w6|apply w7|apply w5
  refine awake11_c ?_
  repeat first|(apply gO;first|(apply x1;apply r0;apply r0)|(apply xbd;apply r0)|apply w4)|(apply gW;first|apply w6|apply w7|(apply w9;apply r0)|apply wa)|apply w5
  refine s_alloc tk rfl rfl rfl (fun b10 hb10 => ?_); have hb := hb10; (try simp only [put_none_iff, prot_none_iff] at hb); (repeat obtain ⟨_, _, hb⟩ := hb)
  (apply xst;apply r0;(apply ps);apply r0)
  rw [put_put]
  refine aops_wk (ds := encCred rootC) rfl ?_
  repeat first|(apply x1;apply r0;apply r0)|(apply x2;apply r0;(apply q0);apply r0)|(apply x9;apply r0)|apply w4|apply w6|apply w7|apply w5
  refine built11_c (c := rootC) hl ?_ (fun T t hB ht => ?_)
  · repeat first|(apply gO;first|(apply x1;apply r0;apply r0)|apply w4|(apply w3;apply r0;apply r0))|(apply gW;first|apply w6|apply w7|(apply w8;apply r0)|apply wd)|apply w5|apply we
    exact rt1 (H' := H) rfl rfl (.refl _) (by repeat first|exact s0|(apply su1;assumption)) hK
  have hg := hB.good
  have hc := hB.small
  have htr := build_tree hB.tree
  have nb7 : b10 ≠ t := by
    have := (put_none_iff.1 ht)
    exact this.2.1
  have ht' : H t = none := (put_none_iff.1 ht).2.2
  repeat first|(apply x1;apply r0;apply r0)|(apply x5;apply r0)|apply w4|apply w6|apply w7|apply w5
  refine aw_cond rfl (fun g1 => ?_) (fun g1 => ?_)<;>first|replace g1:=of_decide_eq_true g1|replace g1:=of_decide_eq_false g1
  · repeat first|(apply x1;apply r0;apply r0)|apply w4|apply w6|apply w7|apply wd|apply w5|apply we
    exact rt1 (H' := H) rfl rfl (.refl _) (by repeat first|exact s0|(apply su1;assumption)) hK
  have hs20 : path.size ≤ 20 := by omega
  repeat first|(apply x1;apply r0;apply r0)|apply w4|apply w6|apply w7|apply wa|apply wb|apply w5
  generalize hY : AHeap.put _ t _ = Y
  have yT : Rd Y t (encTab T) := by rw [← hY]; exact (by apply rd_eq;(focus apply q0);rfl)
  have y10 : Rd Y b10 (encCred rootC) := by rw [← hY]; exact (by apply rd_eq;(focus with_reducible repeat first|assumption|apply q0|apply q3);rfl)
  have ys : H.sub Y := by rw [← hY]; exact (by repeat first|exact s0|(apply su1;assumption))
  clear hY
  refine aw_loop (fun k : Nat => k ≤ path.size) (fun k => [(2, .s path), (3, .b follow), (10, .ptr b10 0), (11, .ptr t 0), (13, .s (ofL (insDots ((byL path).take k)))), (14, .i k)]) (fun _ => Y) (fun k => path.size - k) 0 (Nat.zero_le _) (by repeat (first | exact Fr.sub_nil _ | refine Fr.sub_cons rfl ?_)) (AHeap.sub_refl _) ?_
  intro k hk
  repeat first|(apply x1;apply r0;apply r0)|apply w4|apply w6|apply w7|apply w5
  refine aw_cond rfl (fun c1 => ?_) (fun c1 => ?_)<;>first|replace c1:=of_decide_eq_true c1|replace c1:=of_decide_eq_false c1
  · have c1' : k < path.size := by omega
    have hst := insDots_step c1'
    have hsz := insDots_size path k
    have hsz1 := insDots_size path (k + 1)
    have hget : (byL path)[k]'(by rw [byL_len]; exact c1') = path.data[k]'c1' := by simp [byL]
    have hex : ofL (insDots ((byL path).take k)) ++ path.extract k (k + 1) = ofL (insDots ((byL path).take k) ++ [path.data[k]'c1']) := by
      rw [extract_eq, ofL_app, ← hget, List.drop_take, show k + 1 - k = 1 by omega, List.drop_eq_getElem_cons (by rw [byL_len]; exact c1')]
      rfl
    rw [hget] at hst
    have hsz2 : (ofL (insDots ((byL path).take k) ++ [path.data[k]'c1'])).size ≤ 3 * path.size + 1 := by
      have h1 := hsz
      rw [← byL_len, byL_ofL] at h1 ⊢
      rw [List.length_append, List.length_singleton]; omega
    generalize path.data[k]'c1' = ch at hget hex hst hsz2
    repeat first|(apply x1;apply r0;apply r0)|(apply x6;apply r0;omega)|apply w6|apply w7|apply wa|apply wb|apply w5
    refine s_slices tk rfl rfl rfl rfl rfl (by omega) (by omega) (by omega) ?_
    refine s_cat rfl rfl rfl (by rw [show ((k : Int) + 1).toNat = k + 1 by omega, Int.toNat_natCast, ByteArray.size_extract]; omega) ?_
    rw [show ((k : Int) + 1).toNat = k + 1 by omega, Int.toNat_natCast, hex]
    have hgi : path.data.toList[(k : Int).toNat]? = some ch := by rw [Int.toNat_natCast, ← hget]; exact List.getElem?_eq_getElem (by rw [Array.length_toList]; exact c1')
    repeat first|(apply x1;apply r0;apply r0)|apply w4|apply w6|apply w7|apply w5
    refine s_indexs tk rfl rfl rfl rfl (by omega) hgi ?_
    repeat first|(apply x1;apply r0;apply r0)|apply w4|apply w5
    refine aw_cond rfl (fun c2 => ?_) (fun c2 => ?_)<;>first|replace c2:=of_decide_eq_true c2|replace c2:=of_decide_eq_false c2
    · have c2' : ch = 47 := UInt8.toNat_inj.1 (show ch.toNat = (47 : UInt8).toNat from by rw [show (47 : UInt8).toNat = 47 from rfl]; omega)
      subst c2'
      repeat first|(apply x1;apply r0;apply r0)|apply w7
      refine s_cat rfl rfl rfl (by rw [show (ByteArray.mk #[46, 47]).size = 2 from rfl]; omega) ?_
      rw [show ofL (insDots ((byL path).take k) ++ [47]) ++ ⟨#[46, 47]⟩ = ofL (insDots ((byL path).take (k + 1))) by
        rw [hst, show (⟨#[46, 47]⟩ : ByteArray) = ofL [46, 47] from rfl, ofL_app, List.append_assoc]; rfl]
      repeat first|(apply x1;apply r0;apply r0)|apply w4|(apply x6;apply r0;omega)|apply w7|apply w5|apply wg
      exact ⟨k + 1, by omega, by omega, (by repeat (first | exact Fr.sub_nil _ | refine Fr.sub_cons rfl ?_)), s0⟩
    rw [show ofL (insDots ((byL path).take k) ++ [ch]) = ofL (insDots ((byL path).take (k + 1))) by
      rw [hst, show insDots [ch] = [ch] by rw [insDots, if_neg (show ¬ ch = 47 from fun e => c2 (by rw [e]; rfl))]; rfl]]
    repeat first|(apply x1;apply r0;apply r0)|apply w4|(apply x6;apply r0;omega)|apply w7|apply wa|apply w5|apply wg
    exact ⟨k + 1, by omega, by omega, (by repeat (first | exact Fr.sub_nil _ | refine Fr.sub_cons rfl ?_)), s0⟩
  rw [show ofL (insDots ((byL path).take k)) = dotted path by rw [List.take_of_length_le (by rw [byL_len]; omega)]; rfl]
  have hne : path ≠ ⟨#[]⟩ → T.resolve rootC (dotted path) follow = T.resolve rootC path follow ∧ T.resolve rootC (slashS ++ path) follow = T.resolve rootC path follow := fun h => ⟨resolve_dots hg htr h hs20 follow, resolve_slash h hs20 rootC follow⟩
  have hee : path = ⟨#[]⟩ → (T.resolve rootC path follow).2 = 2 ∧ (T.resolve rootC (dotted path) follow).2 = 2 ∧ (T.resolve rootC (slashS ++ path) follow).2 = 0 ∧ (T.resolve rootC (slashS ++ path) follow).1.node = 1 := fun h => by
    subst h
    obtain ⟨h1, h2⟩ := resolve_only htr rootC follow
    have h3 : slashS ++ (⟨#[]⟩ : ByteArray) = slashS := rfl
    have h4 : dotted ⟨#[]⟩ = ⟨#[]⟩ := rfl
    rw [h3, h4, h1, h2]
    exact ⟨rfl, rfl, rfl, rfl⟩
  repeat first|(apply gO;first|(apply x1;apply r0;apply r0)|(apply x2;apply r0;(with_reducible assumption);apply r0)|(apply x9;apply r0))|(apply gW;first|apply w6|apply w7|apply wc)|apply w5|apply wf|apply wh
  refine resolve_c hg hc (by with_reducible assumption) ?_
  repeat (apply x1;apply r0;apply r0)
  refine s_alloc tk rfl rfl rfl (fun b15 hb15 => ?_); have hb := hb15; (try simp only [put_none_iff, prot_none_iff] at hb); (repeat obtain ⟨_, _, hb⟩ := hb)
  repeat first|(apply gO;first|(apply x1;apply r0;apply r0)|(apply x2;apply r0;(with_reducible repeat first|assumption|apply ps|apply q3|exact n1 ‹_› ‹_›);apply r0)|(apply xst;apply r0;(with_reducible repeat first|assumption|apply ps|apply q3|exact n1 ‹_› ‹_›);apply r0)|(apply x9;apply r0)|apply w4)|(apply gW;first|apply w6|apply w7)|apply w5
  refine resolve_c hg hc (by with_reducible repeat first|assumption|apply q3|exact n1 ‹_› ‹_›) ?_
  repeat (apply x1;apply r0;apply r0)
  refine s_alloc tk rfl rfl rfl (fun b17 hb17 => ?_); have hb := hb17; (try simp only [put_none_iff, prot_none_iff] at hb); (repeat obtain ⟨_, _, hb⟩ := hb)
  repeat first|(apply x1;apply r0;apply r0)|(apply x2;apply r0;(with_reducible repeat first|assumption|apply ps|apply q3|exact n1 ‹_› ‹_›);apply r0)|(apply xst;apply r0;(with_reducible repeat first|assumption|apply ps|apply q3|exact n1 ‹_› ‹_›);apply r0)|apply w4|apply w6|apply w7|apply w5
  refine s_cat rfl rfl rfl (by rw [show (ByteArray.mk #[47]).size = 1 from rfl]; omega) ?_
  rw [show (⟨#[47]⟩ : ByteArray) ++ path = slashS ++ path from rfl]
  repeat first|(apply x1;apply r0;apply r0)|(apply x9;apply r0)
  refine resolve_c hg hc (by with_reducible repeat first|assumption|apply q3|exact n1 ‹_› ‹_›) ?_
  generalize T.resolve rootC path follow = r1 at hne hee ⊢
  generalize T.resolve rootC (dotted path) follow = r2 at hne hee ⊢
  generalize T.resolve rootC (slashS ++ path) follow = r3 at hne hee ⊢
  repeat (apply x1;apply r0;apply r0)
  refine s_alloc tk rfl rfl rfl (fun b19 hb19 => ?_); have hb := hb19; (try simp only [put_none_iff, prot_none_iff] at hb); (repeat obtain ⟨_, _, hb⟩ := hb)
  repeat first|(apply x1;apply r0;apply r0)|(apply xst;apply r0;(apply ps);apply r0)|apply w4|apply w6|apply w7|apply w5
  refine aw_cond rfl (fun c5 => ?_) (fun c5 => ?_)<;>first|replace c5:=of_decide_eq_true c5|replace c5:=of_decide_eq_false c5
  · obtain ⟨d1, d2, d3, d4⟩ := hee c5
    rw [d1, d2, d3]
    repeat first|(apply gO;first|(apply x1;apply r0;apply r0)|(apply x2;apply r0;(apply q0);apply r0)|(apply x5;apply r0)|apply w4)|(apply gW;first|apply w6|apply w7|apply wd)|apply w5|apply we
    rw [d4]
    exact rt1 (H' := H) rfl rfl (.refl _) (by repeat first|assumption|(apply su3;assumption;assumption)) hK
  obtain ⟨d1, d2⟩ := hne c5
  subst d1 d2
  repeat first|(apply x1;apply r0;apply r0)|apply w6|apply w7|apply wa|apply w5
  refine s_gsplit rfl rfl (fun e1 => ?_) (fun e1 => ?_)<;>first|replace e1:=of_decide_eq_true e1|replace e1:=of_decide_eq_false e1
  case refine_2 => exact (e1 rfl).elim
  repeat first|(apply x1;apply r0;apply r0)|(apply x5;apply r0)
  refine s_gsplit rfl rfl (fun e2 => ?_) (fun e2 => ?_)<;>first|replace e2:=of_decide_eq_true e2|replace e2:=of_decide_eq_false e2
  case refine_2 => exact (e2 rfl).elim
  repeat first|(apply x2;apply r0;(with_reducible repeat first|assumption|apply q0|apply q3);apply r0)|(apply x5;apply r0)
  refine s_eqagg (r := true) tk rfl (.inl rfl) rfl rfl rfl (by kernel_rfl) (by exact congrArg some (foundEq r3.1)) ?_
  repeat first|(apply x1;apply r0;apply r0)|(apply x2;apply r0;(with_reducible repeat first|assumption|apply q0|apply q3);apply r0)|(apply x5;apply r0)
  refine s_eqagg (r := true) tk rfl (.inl rfl) rfl rfl rfl (by kernel_rfl) (by exact congrArg some (foundEq r3.1)) ?_
  repeat first|(apply x1;apply r0;apply r0)|apply w4|apply wd|apply w5
  exact rt1 (H' := H) rfl rfl (.refl _) (by repeat first|assumption|(apply su3;assumption;assumption)) hK
end Abs
end Go.Proofs.Ytmokoofibnoojaa
