import Derived.Test.YtbldnaflffmddaaKA
import Derived.Test.YtbldnaflffmddaaT1
import Derived.Test.YtbldnaflffmddaaS1
set_option linter.unusedVariables false
namespace Go.Proofs.Ytbldnaflffmddaa
namespace Abs
set_option linter.unusedSimpArgs false
set_option maxRecDepth 10000
set_option maxHeartbeats 2000000
attribute [local irreducible] AOps AW AP ACalls thenQ inBlk noGoto

/-! ### copies that may be written -/
theorem clone_byr {xs : List (List AVal)} {o : Own} {H : AHeap} {K : AVal → AHeap → Prop} (hu : Uni 1 xs) (hne : 0 < xs.length) (hl : xs.length ≤ 1073741824) (hK : ∀ b cap r, H b = none → xs.length ≤ cap → K (.row b 0 xs.length cap) (H.put b (.cells (xs.flatten ++ r)))) :
    ACalls Try.prog 61 [.sl xs o] H K := by
  refine acalls_body Try.func61 rfl rfl rfl ?_
  repeat first|(apply x1;apply r0;apply r0)|apply w4|apply w6|apply w7|apply w5
  refine s_slnil tk rfl rfl rfl (fun b hb => ?_)
  repeat first|apply w4|apply w5
  refine aw_cond rfl (fun h => ?_) (fun h => ?_)
  · have := hb h
    subst this
    exact absurd hne (Nat.lt_irrefl 0)
  repeat first|(apply x1;apply r0;apply r0)|(apply xbs;apply r0)|apply w6|apply w7|apply wa|apply w5
  refine s_append_row tk rfl rfl rfl rfl rfl rfl rfl hu hne (by omega) (fun b2 cap hb2 hcap => ?_)
  repeat first|(apply x1;apply r0;apply r0)|apply w4|apply wd|apply w5
  exact rt1 rfl rfl (.refl _) (AHeap.sub_refl _) (hK b2 cap _ hb2 hcap)
theorem clone_enr {xs : List (List AVal)} {o : Own} {H : AHeap} {K : AVal → AHeap → Prop} (hu : Uni 2 xs) (hne : 0 < xs.length) (hl : xs.length ≤ 1073741824) (hK : ∀ b cap r, H b = none → xs.length ≤ cap → K (.row b 0 xs.length cap) (H.put b (.cells (xs.flatten ++ r)))) :
    ACalls Try.prog 62 [.sl xs o] H K := by
  refine acalls_body Try.func62 rfl rfl rfl ?_
  repeat first|(apply x1;apply r0;apply r0)|apply w4|apply w6|apply w7|apply w5
  refine s_slnil tk rfl rfl rfl (fun b hb => ?_)
  repeat first|apply w4|apply w5
  refine aw_cond rfl (fun h => ?_) (fun h => ?_)
  · have := hb h
    subst this
    exact absurd hne (Nat.lt_irrefl 0)
  repeat first|(apply x1;apply r0;apply r0)|(apply xbs;apply r0)|apply w6|apply w7|apply wa|apply w5
  refine s_append_row tk rfl rfl rfl rfl rfl rfl rfl hu hne (by omega) (fun b2 cap hb2 hcap => ?_)
  repeat first|(apply x1;apply r0;apply r0)|apply w4|apply wd|apply w5
  exact rt1 rfl rfl (.refl _) (AHeap.sub_refl _) (hK b2 cap _ hb2 hcap)
/-- a copy: nothing, or a row in a new block -/
def RowV (X Y : AHeap) (v : AVal) (ys : List (List AVal)) : Prop := (ys = [] ∧ v = .sl [] .no) ∨ (0 < ys.length ∧ ∃ b cap r, v = .row b 0 ys.length cap ∧ ys.length ≤ cap ∧ X b = none ∧ Y b = some (.cells (ys.flatten ++ r)))
theorem clone_by2 {xs : List (List AVal)} {o : Own} {H : AHeap} {K : AVal → AHeap → Prop} (hu : Uni 1 xs) (hf : flatA xs.flatten = true) (hl : xs.length ≤ 1073741824) (hK : ∀ v Y, (∀ x, H x ≠ none → Y x = H x) → H.sub Y → RowV H Y v xs → K v Y) :
    ACalls Try.prog 61 [.sl xs o] H K := by
  rcases Nat.eq_zero_or_pos xs.length with h | h
  · obtain rfl := List.length_eq_zero_iff.1 h
    exact clone_bytes hu hf (by simp) (hK _ H (fun x _ => rfl) (AHeap.sub_refl _) (.inl ⟨rfl, rfl⟩))
  · exact clone_byr hu h hl (fun b cap r hb hc => hK _ _ (fun x hx => put_ne (fun e => hx (e ▸ hb))) (AHeap.sub_put (AHeap.sub_refl _) _ hb) (.inr ⟨h, b, cap, r, rfl, hc, hb, put_same _ _ _⟩))
theorem clone_en2 {xs : List (List AVal)} {o : Own} {H : AHeap} {K : AVal → AHeap → Prop} (hu : Uni 2 xs) (hf : flatA xs.flatten = true) (hl : xs.length ≤ 1073741824) (hK : ∀ v Y, (∀ x, H x ≠ none → Y x = H x) → H.sub Y → RowV H Y v xs → K v Y) :
    ACalls Try.prog 62 [.sl xs o] H K := by
  rcases Nat.eq_zero_or_pos xs.length with h | h
  · obtain rfl := List.length_eq_zero_iff.1 h
    exact clone_ents hu hf (by simp) (hK _ H (fun x _ => rfl) (AHeap.sub_refl _) (.inl ⟨rfl, rfl⟩))
  · exact clone_enr hu h hl (fun b cap r hb hc => hK _ _ (fun x hx => put_ne (fun e => hx (e ▸ hb))) (AHeap.sub_put (AHeap.sub_refl _) _ hb) (.inr ⟨h, b, cap, r, rfl, hc, hb, put_same _ _ _⟩))
theorem sub_same {H W : AHeap} (h : ∀ x, H x ≠ none → W x = H x) : H.sub W := fun x p hx => ⟨p, (h x (by rw [hx]; simp)).trans hx, .refl _⟩
theorem row_fin {H X Y Z : AHeap} {b1 b2 : Nat} {c o1 o2 : HObj} (f1 : H b1 = none) (f2 : H b2 = none) (x1 : X b1 ≠ none) (x2 : X b2 ≠ none) (hX : ∀ x, H x ≠ none → X x = H x) (hY : ∀ x, X x ≠ none → Y x = X x) (hZ : ∀ x, (Y.put b1 c) x ≠ none → Z x = (Y.put b1 c) x)
    {dv ev : AVal} {d e : List (List AVal)} (hd : RowV X Y dv d) (he : RowV (Y.put b1 c) Z ev e) :
    (∀ x, H x ≠ none → ((Z.put b1 o1).put b2 o2) x = H x) ∧ RowV H ((Z.put b1 o1).put b2 o2) dv d ∧ RowV H ((Z.put b1 o1).put b2 o2) ev e ∧ (∀ bd be m1 c1 m2 c2, dv = .row bd 0 m1 c1 → ev = .row be 0 m2 c2 → bd ≠ be) := by
  have hHX : ∀ x, X x = none → H x = none := fun x hx => by
    cases h : H x with
    | none => rfl
    | some p => have := hX x (by rw [h]; simp); rw [hx, h] at this; cases this
  have hXY : ∀ x, Y x = none → X x = none := fun x hx => by
    cases h : X x with
    | none => rfl
    | some p => have := hY x (by rw [h]; simp); rw [hx, h] at this; cases this
  refine ⟨fun x hx => ?_, ?_, ?_, ?_⟩
  · have h1 : x ≠ b1 := fun e => hx (by rw [e]; exact f1)
    have h2 : x ≠ b2 := fun e => hx (by rw [e]; exact f2)
    have h3 : (Y.put b1 c) x = H x := by rw [put_ne h1, hY x (by rw [hX x hx]; exact hx), hX x hx]
    rw [put_ne h2, put_ne h1, hZ x (by rw [h3]; exact hx), h3]
  · rcases hd with h | ⟨h0, b, cap, r, h1, h2, h3, h4⟩
    · exact .inl h
    · have n1 : b ≠ b1 := fun e => x1 (by rw [← e]; exact h3)
      have n2 : b ≠ b2 := fun e => x2 (by rw [← e]; exact h3)
      refine .inr ⟨h0, b, cap, r, h1, h2, hHX b h3, ?_⟩
      rw [put_ne n2, put_ne n1, hZ b (by rw [put_ne n1, h4]; simp), put_ne n1, h4]
  · rcases he with h | ⟨h0, b, cap, r, h1, h2, h3, h4⟩
    · exact .inl h
    · have h5 := put_none_iff.1 h3
      have n1 : b ≠ b1 := fun e => by rw [e, put_same] at h3; cases h3
      have h6 : Y b = none := by rw [put_ne n1] at h3; exact h3
      have n2 : b ≠ b2 := fun e => x2 (by rw [← e]; exact hXY b h6)
      refine .inr ⟨h0, b, cap, r, h1, h2, hHX b (hXY b h6), ?_⟩
      rw [put_ne n2, put_ne n1, h4]
  · intro bd be m1 c1 m2 c2 hdv hev e
    rcases hd with h | ⟨h0, b, cap, r, h1, h2, h3, h4⟩
    · rw [h.2] at hdv; cases hdv
    · rcases he with h | ⟨k0, b', cap', r', k1, k2, k3, k4⟩
      · rw [h.2] at hev; cases hev
      · rw [h1] at hdv; cases hdv
        rw [k1] at hev; cases hev
        rw [← e] at k3
        have n1 : bd ≠ b1 := fun e => x1 (by rw [← e]; exact h3)
        rw [put_ne n1, h4] at k3; cases k3
theorem own_row {n : Node} {H : AHeap} {K : AVal → AHeap → Prop} (hs : n.small) (hK : ∀ dv ev Y, (∀ x, H x ≠ none → Y x = H x) → H.sub Y → RowV H Y dv (encBytes n.data) → RowV H Y ev (n.ents.map encEnt) → (∀ bd be m1 c1 m2 c2, dv = .row bd 0 m1 c1 → ev = .row be 0 m2 c2 → bd ≠ be) → K (.agg [.i n.kind, .i n.mode, .i n.uid, .i n.gid, dv, ev, .s n.target]) Y) :
    ACalls Try.prog 50 [.agg (encNode n)] H K := by
  refine acalls_body Try.func50 rfl rfl rfl ?_
  have hl1 := encBytes_len n.data
  have hl2 := ents_len n.ents
  have hs1 := hs.1
  have hs2 := hs.2
  rw [show encNode n = [.i n.kind, .i n.mode, .i n.uid, .i n.gid, .sl (encBytes n.data) .no, .sl (n.ents.map encEnt) .no, .s n.target] from rfl]
  repeat first|apply w6|apply w7
  refine s_box rfl rfl rfl (fun b1 hb1 => ?_); have hb := hb1; (try simp only [put_none_iff, prot_none_iff] at hb); (repeat obtain ⟨_, _, hb⟩ := hb)
  skip
  refine s_alloc tk rfl rfl rfl (fun b2 hb2 => ?_); have hb := hb2; (try simp only [put_none_iff, prot_none_iff] at hb); (repeat obtain ⟨_, _, hb⟩ := hb)
  repeat first|(apply x1;apply r0;apply r0)|(apply x2;apply r0;(with_reducible repeat first|assumption|apply q0|apply q3);apply r0)|(apply x9;apply r0)|apply w4|apply w6|apply w7|apply w5
  refine clone_by2 (uni_bytes _) (flat_bytes _) (by omega) (fun dv Y hY hsY hdv => ?_)
  have n12 : b1 ≠ b2 := by assumption
  have fb2 : H b2 = none := (put_none_iff.1 hb2).2.2
  have hX0 : ∀ x, H x ≠ none → ((H.put b1 (.cells [.i n.kind, .i n.mode, .i n.uid, .i n.gid, .sl (encBytes n.data) .no, .sl (n.ents.map encEnt) .no, .s n.target])).put b2 (.cells [.sc (.int .i64 0), .sc (.int .i64 0), .sc (.int .i64 0), .sc (.int .i64 0), .sl [] .full, .sl [] .full, .sc (.string ⟨#[]⟩)])) x = H x := fun x hx => by
    rw [put_ne (fun e => hx (by rw [e]; exact fb2)), put_ne (fun e => hx (by rw [e]; exact hb1))]
  have y1' : Y b1 = some (.cells [.i n.kind, .i n.mode, .i n.uid, .i n.gid, .sl (encBytes n.data) .no, .sl (n.ents.map encEnt) .no, .s n.target]) := (hY b1 (by rw [put_ne n12, put_same]; simp)).trans (by rw [put_ne n12, put_same])
  have y2' : Y b2 = some (.cells [.sc (.int .i64 0), .sc (.int .i64 0), .sc (.int .i64 0), .sc (.int .i64 0), .sl [] .full, .sl [] .full, .sc (.string ⟨#[]⟩)]) := (hY b2 (by rw [put_same]; simp)).trans (put_same _ _ _)
  have n21 : b2 ≠ b1 := Ne.symm n12
  have hdv2 := hdv
  rcases hdv2 with ⟨_, rfl⟩ | ⟨_, bd, capd, rd, rfl, _, _, _⟩
  · repeat first|(apply gO;first|(apply x1;apply r0;apply r0)|(apply x2;apply r0;(with_reducible repeat first|assumption|apply q0);apply r0)|(apply xst;apply r0;(with_reducible repeat first|assumption|apply q0);apply r0)|(apply x9;apply r0)|apply w4)|(apply gW;first|apply w6|apply w7)|apply w5
    refine clone_en2 (uni_ents _) (flat_ents _) (by omega) (fun ev Z hZ hsZ hev => ?_)
    have hev2 := hev
    rcases hev2 with ⟨_, rfl⟩ | ⟨_, be, cape, re, rfl, _, _, _⟩
    · have z1' : Z b1 = some (.cells [.i n.kind, .i n.mode, .i n.uid, .i n.gid, .sl [] .no, .sl (n.ents.map encEnt) .no, .s n.target]) := (hZ b1 (by rw [put_same]; simp)).trans (put_same _ _ _)
      have z2' : Z b2 = some (.cells [.sc (.int .i64 0), .sc (.int .i64 0), .sc (.int .i64 0), .sc (.int .i64 0), .sl [] .full, .sl [] .full, .sc (.string ⟨#[]⟩)]) := (hZ b2 (by rw [put_ne n21, y2']; simp)).trans (by rw [put_ne n21]; exact y2')
      repeat first|(apply gO;first|(apply x1;apply r0;apply r0)|(apply x2;apply r0;(with_reducible repeat first|assumption|apply q0|apply gp);apply r0)|(apply xst;apply r0;(with_reducible repeat first|assumption|apply q0|apply gp);apply r0)|apply w4)|(apply gW;first|apply w6|apply w7|apply wd)|apply w5
      obtain ⟨q1', q2', q3', q4'⟩ := row_fin (b1 := b1) (b2 := b2) (o1 := .cells [.i n.kind, .i n.mode, .i n.uid, .i n.gid, .sl [] .no, .sl [] .no, .s n.target]) (o2 := .cells [.i n.kind, .i n.mode, .i n.uid, .i n.gid, .sl [] .no, .sl [] .no, .s n.target]) hb1 fb2 (by rw [put_ne n12, put_same]; simp) (by rw [put_same]; simp) hX0 hY hZ hdv hev
      exact rt1c rfl rfl (.inl (put_same _ _ _)) rfl (by rfl) (by exact .refl _) (AHeap.sub_refl _) (hK (.sl [] .no) (.sl [] .no) _ q1' (sub_same q1') q2' q3' q4')
    · have z1' : Z b1 = some (.cells [.i n.kind, .i n.mode, .i n.uid, .i n.gid, .sl [] .no, .sl (n.ents.map encEnt) .no, .s n.target]) := (hZ b1 (by rw [put_same]; simp)).trans (put_same _ _ _)
      have z2' : Z b2 = some (.cells [.sc (.int .i64 0), .sc (.int .i64 0), .sc (.int .i64 0), .sc (.int .i64 0), .sl [] .full, .sl [] .full, .sc (.string ⟨#[]⟩)]) := (hZ b2 (by rw [put_ne n21, y2']; simp)).trans (by rw [put_ne n21]; exact y2')
      repeat first|(apply gO;first|(apply x1;apply r0;apply r0)|(apply x2;apply r0;(with_reducible repeat first|assumption|apply q0|apply gp);apply r0)|(apply xst;apply r0;(with_reducible repeat first|assumption|apply q0|apply gp);apply r0)|apply w4)|(apply gW;first|apply w6|apply w7|apply wd)|apply w5
      obtain ⟨q1', q2', q3', q4'⟩ := row_fin (b1 := b1) (b2 := b2) (o1 := .cells [.i n.kind, .i n.mode, .i n.uid, .i n.gid, .sl [] .no, .row be 0 (n.ents.map encEnt).length cape, .s n.target]) (o2 := .cells [.i n.kind, .i n.mode, .i n.uid, .i n.gid, .sl [] .no, .row be 0 (n.ents.map encEnt).length cape, .s n.target]) hb1 fb2 (by rw [put_ne n12, put_same]; simp) (by rw [put_same]; simp) hX0 hY hZ hdv hev
      exact rt1c rfl rfl (.inl (put_same _ _ _)) rfl (by rfl) (by exact .refl _) (AHeap.sub_refl _) (hK (.sl [] .no) (.row be 0 (n.ents.map encEnt).length cape) _ q1' (sub_same q1') q2' q3' q4')
  · repeat first|(apply gO;first|(apply x1;apply r0;apply r0)|(apply x2;apply r0;(with_reducible repeat first|assumption|apply q0);apply r0)|(apply xst;apply r0;(with_reducible repeat first|assumption|apply q0);apply r0)|(apply x9;apply r0)|apply w4)|(apply gW;first|apply w6|apply w7)|apply w5
    refine clone_en2 (uni_ents _) (flat_ents _) (by omega) (fun ev Z hZ hsZ hev => ?_)
    have hev2 := hev
    rcases hev2 with ⟨_, rfl⟩ | ⟨_, be, cape, re, rfl, _, _, _⟩
    · have z1' : Z b1 = some (.cells [.i n.kind, .i n.mode, .i n.uid, .i n.gid, .row bd 0 (encBytes n.data).length capd, .sl (n.ents.map encEnt) .no, .s n.target]) := (hZ b1 (by rw [put_same]; simp)).trans (put_same _ _ _)
      have z2' : Z b2 = some (.cells [.sc (.int .i64 0), .sc (.int .i64 0), .sc (.int .i64 0), .sc (.int .i64 0), .sl [] .full, .sl [] .full, .sc (.string ⟨#[]⟩)]) := (hZ b2 (by rw [put_ne n21, y2']; simp)).trans (by rw [put_ne n21]; exact y2')
      repeat first|(apply gO;first|(apply x1;apply r0;apply r0)|(apply x2;apply r0;(with_reducible repeat first|assumption|apply q0|apply gp);apply r0)|(apply xst;apply r0;(with_reducible repeat first|assumption|apply q0|apply gp);apply r0)|apply w4)|(apply gW;first|apply w6|apply w7|apply wd)|apply w5
      obtain ⟨q1', q2', q3', q4'⟩ := row_fin (b1 := b1) (b2 := b2) (o1 := .cells [.i n.kind, .i n.mode, .i n.uid, .i n.gid, .row bd 0 (encBytes n.data).length capd, .sl [] .no, .s n.target]) (o2 := .cells [.i n.kind, .i n.mode, .i n.uid, .i n.gid, .row bd 0 (encBytes n.data).length capd, .sl [] .no, .s n.target]) hb1 fb2 (by rw [put_ne n12, put_same]; simp) (by rw [put_same]; simp) hX0 hY hZ hdv hev
      exact rt1c rfl rfl (.inl (put_same _ _ _)) rfl (by rfl) (by exact .refl _) (AHeap.sub_refl _) (hK (.row bd 0 (encBytes n.data).length capd) (.sl [] .no) _ q1' (sub_same q1') q2' q3' q4')
    · have z1' : Z b1 = some (.cells [.i n.kind, .i n.mode, .i n.uid, .i n.gid, .row bd 0 (encBytes n.data).length capd, .sl (n.ents.map encEnt) .no, .s n.target]) := (hZ b1 (by rw [put_same]; simp)).trans (put_same _ _ _)
      have z2' : Z b2 = some (.cells [.sc (.int .i64 0), .sc (.int .i64 0), .sc (.int .i64 0), .sc (.int .i64 0), .sl [] .full, .sl [] .full, .sc (.string ⟨#[]⟩)]) := (hZ b2 (by rw [put_ne n21, y2']; simp)).trans (by rw [put_ne n21]; exact y2')
      repeat first|(apply gO;first|(apply x1;apply r0;apply r0)|(apply x2;apply r0;(with_reducible repeat first|assumption|apply q0|apply gp);apply r0)|(apply xst;apply r0;(with_reducible repeat first|assumption|apply q0|apply gp);apply r0)|apply w4)|(apply gW;first|apply w6|apply w7|apply wd)|apply w5
      obtain ⟨q1', q2', q3', q4'⟩ := row_fin (b1 := b1) (b2 := b2) (o1 := .cells [.i n.kind, .i n.mode, .i n.uid, .i n.gid, .row bd 0 (encBytes n.data).length capd, .row be 0 (n.ents.map encEnt).length cape, .s n.target]) (o2 := .cells [.i n.kind, .i n.mode, .i n.uid, .i n.gid, .row bd 0 (encBytes n.data).length capd, .row be 0 (n.ents.map encEnt).length cape, .s n.target]) hb1 fb2 (by rw [put_ne n12, put_same]; simp) (by rw [put_same]; simp) hX0 hY hZ hdv hev
      exact rt1c rfl rfl (.inl (put_same _ _ _)) rfl (by rfl) (by exact .refl _) (AHeap.sub_refl _) (hK (.row bd 0 (encBytes n.data).length capd) (.row be 0 (n.ents.map encEnt).length cape) _ q1' (sub_same q1') q2' q3' q4')
theorem row_fin2 {H Y : AHeap} {b : Nat} {c o : HObj} (f : H b = none) (hY : ∀ x, (H.put b c) x ≠ none → Y x = (H.put b c) x) : (∀ x, H x ≠ none → (Y.put b o) x = H x) ∧ (∀ v d, RowV (H.put b c) Y v d → RowV H (Y.put b o) v d) := by
  refine ⟨fun x hx => ?_, fun v d h => ?_⟩
  · have h1 : x ≠ b := fun e => hx (by rw [e]; exact f)
    rw [put_ne h1, hY x (by rw [put_ne h1]; exact hx), put_ne h1]
  · rcases h with h | ⟨h0, b', cap, r, h1, h2, h3, h4⟩
    · exact .inl h
    · have n1 : b' ≠ b := fun e => by rw [e, put_same] at h3; cases h3
      exact .inr ⟨h0, b', cap, r, h1, h2, by rw [put_ne n1] at h3; exact h3, by rw [put_ne n1]; exact h4⟩
theorem get_row {t : Nat} {T : Tab} (hw : T.wf) {i : Int} {H : AHeap} (hT : Rd H t (encTab T)) {K : AVal → AHeap → Prop}
    (h0 : T.has i = false → K (.tup [.agg (encNode Node.zero), .b false]) H)
    (h1 : T.has i = true → ∀ dv ev Y, (∀ x, H x ≠ none → Y x = H x) → RowV H Y dv (encBytes (T.get i).data) → RowV H Y ev ((T.get i).ents.map encEnt) → (∀ bd be m1 c1 m2 c2, dv = .row bd 0 m1 c1 → ev = .row be 0 m2 c2 → bd ≠ be) → K (.tup [.agg [.i (T.get i).kind, .i (T.get i).mode, .i (T.get i).uid, .i (T.get i).gid, dv, ev, .s (T.get i).target], .b true]) Y) :
    ACalls Try.prog 34 [.ptr t 0, .i i] H K := by
  refine acalls_body Try.func34 rfl rfl rfl ?_
  repeat first|apply w6|apply w7
  refine s_alloc tk rfl rfl rfl (fun b4 hb4 => ?_); have hb := hb4; (try simp only [put_none_iff, prot_none_iff] at hb); (repeat obtain ⟨_, _, hb⟩ := hb)
  have hne : t ≠ b4 := by rcases hT with h | h <;> exact ne_of_get hb4 h
  repeat first|(apply x1;apply r0;apply r0)|(apply x9;apply r0)|apply w4|apply w6|apply w7|apply w5
  refine at_c hw (by unfold Rd; rw [put_ne hne]; exact hT) (fun hh => ?_) (fun hh => ?_)
  · have hK := h1 hh
    repeat first|(apply x1;apply r0;apply r0)|apply w4|apply w6|apply w7|(apply w9;apply r0)|apply wa|apply w5
    refine s_loada tk rfl rfl (by unfold Rd; rw [put_ne hne]; exact hT) rfl (by rw [encTab_len _ hw.1]; have := has_lt hw hh; have := hw.2.1; omega) (encTab_row hw hh) ?_
    repeat (apply x9;apply r0)
    have hsm := get_small hw i
    clear h0 h1
    generalize T.get i = n at hK hsm ⊢
    refine own_row hsm (fun dv ev Y hY hsY hdv hev hne => ?_)
    have hdv2 := hdv
    have hev2 := hev
    have z4 : Y b4 = some (.cells [.sc (.int .i64 0), .sc (.int .i64 0), .sc (.int .i64 0), .sc (.int .i64 0), .sl [] .full, .sl [] .full, .sc (.string ⟨#[]⟩)]) := (hY b4 (by rw [put_same]; simp)).trans (put_same _ _ _)
    rcases hdv2 with ⟨_, rfl⟩ | ⟨_, bd, capd, rdd, rfl, _, _, _⟩
    · rcases hev2 with ⟨_, rfl⟩ | ⟨_, be, cape, re, rfl, _, _, _⟩
      · repeat first|(apply x1;apply r0;apply r0)|(apply xst;apply r0;(with_reducible assumption);apply r0)|apply w4|apply wd|apply w5
        obtain ⟨q1', q2'⟩ := row_fin2 (b := b4) (o := .cells [.i n.kind, .i n.mode, .i n.uid, .i n.gid, .sl [] .no, .sl [] .no, .s n.target]) hb4 hY
        exact rt2c rfl rfl (.inl (put_same _ _ _)) rfl (by rfl) rfl (by exact .refl _) (AHeap.sub_refl _) (hK (.sl [] .no) (.sl [] .no) _ q1' (q2' _ _ hdv) (q2' _ _ hev) hne)
      · repeat first|(apply x1;apply r0;apply r0)|(apply xst;apply r0;(with_reducible assumption);apply r0)|apply w4|apply wd|apply w5
        obtain ⟨q1', q2'⟩ := row_fin2 (b := b4) (o := .cells [.i n.kind, .i n.mode, .i n.uid, .i n.gid, .sl [] .no, .row be 0 (n.ents.map encEnt).length cape, .s n.target]) hb4 hY
        exact rt2c rfl rfl (.inl (put_same _ _ _)) rfl (by rfl) rfl (by exact .refl _) (AHeap.sub_refl _) (hK (.sl [] .no) (.row be 0 (n.ents.map encEnt).length cape) _ q1' (q2' _ _ hdv) (q2' _ _ hev) hne)
    · rcases hev2 with ⟨_, rfl⟩ | ⟨_, be, cape, re, rfl, _, _, _⟩
      · repeat first|(apply x1;apply r0;apply r0)|(apply xst;apply r0;(with_reducible assumption);apply r0)|apply w4|apply wd|apply w5
        obtain ⟨q1', q2'⟩ := row_fin2 (b := b4) (o := .cells [.i n.kind, .i n.mode, .i n.uid, .i n.gid, .row bd 0 (encBytes n.data).length capd, .sl [] .no, .s n.target]) hb4 hY
        exact rt2c rfl rfl (.inl (put_same _ _ _)) rfl (by rfl) rfl (by exact .refl _) (AHeap.sub_refl _) (hK (.row bd 0 (encBytes n.data).length capd) (.sl [] .no) _ q1' (q2' _ _ hdv) (q2' _ _ hev) hne)
      · repeat first|(apply x1;apply r0;apply r0)|(apply xst;apply r0;(with_reducible assumption);apply r0)|apply w4|apply wd|apply w5
        obtain ⟨q1', q2'⟩ := row_fin2 (b := b4) (o := .cells [.i n.kind, .i n.mode, .i n.uid, .i n.gid, .row bd 0 (encBytes n.data).length capd, .row be 0 (n.ents.map encEnt).length cape, .s n.target]) hb4 hY
        exact rt2c rfl rfl (.inl (put_same _ _ _)) rfl (by rfl) rfl (by exact .refl _) (AHeap.sub_refl _) (hK (.row bd 0 (encBytes n.data).length capd) (.row be 0 (n.ents.map encEnt).length cape) _ q1' (q2' _ _ hdv) (q2' _ _ hev) hne)
  · repeat first|(apply gO;first|(apply x1;apply r0;apply r0)|(apply xst;apply r0;(apply ps);apply r0)|(apply xbd;apply r0)|apply w4)|(apply gW;first|apply w6|apply w7|(apply w8;apply r0)|apply wd)|apply w5|apply we
    exact rt2c (H' := H) rfl rfl (by apply q0) rfl (by rfl) rfl (.pair (by exact wk_agg rfl) (.refl _)) (by repeat first|exact s0|(apply su1;assumption)) (h0 hh)
end Abs
end Go.Proofs.Ytbldnaflffmddaa
