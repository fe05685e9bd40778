import Derived.Test.YtpifnlodilcgkaaID
set_option linter.unusedVariables false
namespace Go.Proofs.Ytpifnlodilcgkaa
namespace Abs
set_option linter.unusedSimpArgs false
set_option maxRecDepth 10000
set_option maxHeartbeats 2000000
attribute [local irreducible] AOps AW AP ACalls thenQ inBlk noGoto

/-! ### the document's chapter 10: what is told -/
def encR (r : Raw) : List AVal := encM r.made ++ [.i r.parent, .s r.name, .i r.node]
def encRs (l : List Raw) : List (List AVal) := l.map encR
theorem rs_len (l : List Raw) : (encRs l).length = l.length := by simp [encRs]
theorem rs_uni (l : List Raw) : Uni 11 (encRs l) := fun x hx => by
  obtain ⟨e, _, rfl⟩ := List.mem_map.1 hx; rfl
theorem rs_uni1 (r : Raw) : Uni 11 [encR r] := fun x hx => by
  rw [List.mem_singleton.1 hx]; rfl
theorem rs_app (l : List Raw) (r : Raw) : encRs l ++ [encR r] = encRs (l ++ [r]) := by simp [encRs]
theorem rs_get (l : List Raw) (k : Nat) (h : k < l.length) : (encRs l)[(k : Int).toNat]? = some (encR l[k]) := by simp [encRs, h]
theorem raws_get (l : List Raw) (k : Nat) (h : k < l.length) : (encRaws l)[(k : Int).toNat]? = some (encRaw l[k]) := by simp [encRaws, h]
theorem told10_c {l : List Raw} {o0 : Own} (hl : l.length ≤ 10000) {H : AHeap} {K : AVal → AHeap → Prop} (hK : K (.sl (encRs l) .no) H) : ACalls Try.prog 26 [.sl (encRaws l) o0] H K := by
  refine acalls_body Try.func26 rfl rfl rfl ?_
  have ll := raws_len l
  repeat first|(apply x1;apply r0;apply r0)|apply w4|apply w6|apply w7|apply wb|apply w5
  refine aw_loop (fun s : Nat × Own × AHeap => s.1 ≤ l.length ∧ OwnSt H s.2.2 s.2.1 ∧ ownEs 11 s.2.1) (fun s => [(0, .sl (encRaws l) o0), (3, .sl (encRs (l.take s.1)) s.2.1), (4, .i s.1)]) (fun s => s.2.2) (fun s => l.length - s.1) (0, .full, H) ⟨Nat.zero_le _, OwnSt.full H, trivial⟩ (by repeat (first | exact Fr.sub_nil _ | refine Fr.sub_cons rfl ?_)) (AHeap.sub_refl _) ?_
  rintro ⟨k, o1, Y⟩ ⟨hk, hm, he1⟩
  simp only at hk hm he1
  repeat first|(apply x1;apply r0;apply r0)|apply w4|apply w6|apply w7|apply w5
  refine aw_cond rfl (fun c => ?_) (fun c => ?_)<;>first|replace c:=of_decide_eq_true c|replace c:=of_decide_eq_false c
  case refine_2 =>
    have hke : k = l.length := by omega
    subst hke
    rw [List.take_length]
    repeat first|(apply gO;first|(apply x1;apply r0;apply r0)|apply w4)|(apply gW;first|apply w6|apply w7|apply wd|apply wc)|apply w5|apply wf|apply wh
    exact rt1 (H' := H) rfl rfl (.sl _ _) hm.sub hK
  have c' : k < l.length := by omega
  have lt := rs_len (l.take k)
  rw [List.length_take] at lt
  have hst : encRs (l.take k) ++ [encR l[k]] = encRs (l.take (k + 1)) := by
    rw [rs_app, List.take_add_one, List.getElem?_eq_getElem c', Option.toList_some]
  have hgk := raws_get l k c'
  generalize l[k] = r at hst hgk
  repeat first|(apply x1;apply r0;apply r0)|apply w6|apply w7|apply wa|apply wb|apply w5
  refine s_index tk rfl rfl rfl rfl (by omega) hgk rfl ?_
  repeat (apply x3;apply r0)
  refine s_alloc tk rfl rfl rfl (fun b5 hb5 => ?_); have hb := hb5; (try simp only [put_none_iff, prot_none_iff] at hb); (repeat obtain ⟨_, _, hb⟩ := hb)
  (apply xst;apply r0;(apply ps);apply r0)
  rw [put_put]
  have hm2 : OwnSt H (Y.put b5 (.cells (encRaw r))) o1 := ⟨owned_get hm.own (fun x hx => put_ne (fun e => owned_some hm.own hx (e ▸ hb))), fun x hx => by
    obtain ⟨h1, h2⟩ := hm.old x hx
    exact ⟨by rw [put_ne (fun e => by rw [e] at h1 hx; rw [hb] at h1; exact hx h1.symm), h1], h2⟩⟩
  generalize hZ : Y.put b5 _ = Z at hm2 ⊢
  have z5 : Z b5 = some (.cells (encRaw r)) := by rw [← hZ]; exact put_same _ _ _
  clear hZ
  repeat first|(apply x1;apply r0;apply r0)|(apply x2;apply r0;(with_reducible repeat exact q1 ‹_›);apply r0)|apply w4|apply w7|apply w5
  refine s_str (s := r.data) tk rfl rfl rfl rfl rfl ?_
  repeat first|(apply gO;first|(apply x1;apply r0;apply r0)|apply w4)|(apply gW;first|apply w6|apply w7)|apply w5
  refine x2 rfl (by with_reducible repeat exact q1 ‹_›) rfl ?_
  repeat first|(apply gO;first|(apply x1;apply r0;apply r0)|apply w4)|(apply gW;first|apply w6|apply w7)|apply w5
  refine xbd (v := .agg [.i r.kind, .i r.mode, .i r.uid, .i r.gid, .s r.data, .sl [] .full, .sl [] .full, .s r.target]) rfl ?_
  repeat first|(apply gO;first|(apply x1;apply r0;apply r0)|apply w4)|(apply gW;first|apply w6|apply w7)|apply w5
  refine x2 rfl (by with_reducible repeat exact q1 ‹_›) rfl ?_
  repeat first|(apply gO;first|(apply x1;apply r0;apply r0)|apply w4)|(apply gW;first|apply w6|apply w7)|apply w5
  refine x2 rfl (by with_reducible repeat exact q1 ‹_›) rfl ?_
  repeat first|(apply gO;first|(apply x1;apply r0;apply r0)|apply w4)|(apply gW;first|apply w6|apply w7)|apply w5
  refine x2 rfl (by with_reducible repeat exact q1 ‹_›) rfl ?_
  repeat first|(apply gO;first|(apply x1;apply r0;apply r0)|apply w4)|(apply gW;first|apply w6|apply w7)|apply w5
  refine xbd (v := .agg [.i r.kind, .i r.mode, .i r.uid, .i r.gid, .s r.data, .sl [] .full, .sl [] .full, .s r.target, .i r.parent, .s r.name, .i r.node]) rfl ?_
  refine xbs (v := .sl [[.i r.kind, .i r.mode, .i r.uid, .i r.gid, .s r.data, .sl [] .full, .sl [] .full, .s r.target, .i r.parent, .s r.name, .i r.node]] .full) rfl ?_
  refine aops_wkf (d := 38) (u := .sl [encR r] .no) rfl (wk_rows rfl) ?_
  refine s_append tk rfl rfl rfl rfl rfl (rs_uni _) (rs_uni1 _) rfl hm2.own he1 (by rw [lt]; simp only [List.length_cons, List.length_nil]; omega) (fun p1 ha1 he1' => ?_)
  have hm3 := hm2.step ha1
  rw [hst]
  repeat first|(apply x1;apply r0;apply r0)|apply w4|(apply x6;apply r0;omega)|apply w7|apply w5|apply wg
  exact ⟨(k + 1, p1, (Z.free o1).own p1), ⟨c', hm3, he1'⟩, by simp only; omega, (by repeat (first | exact Fr.sub_nil _ | refine Fr.sub_cons rfl ?_)), AHeap.sub_refl _⟩
end Abs
end Go.Proofs.Ytpifnlodilcgkaa
