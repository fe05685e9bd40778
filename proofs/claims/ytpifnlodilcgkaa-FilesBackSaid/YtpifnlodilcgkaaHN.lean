import Derived.Test.YtpifnlodilcgkaaHG
import Derived.Test.YtpifnlodilcgkaaHJ
set_option linter.unusedVariables false
namespace Go.Proofs.Ytpifnlodilcgkaa
namespace Abs
set_option maxRecDepth 10000
attribute [local irreducible] AOps AW ACalls thenQ inBlk noGoto
/-! ### FilesBack: plain law -/
theorem pad_get (l : List UInt8) (off j : Nat) : (padL l off)[j]? = if j < l.length then l[j]? else if j < off then some 0 else none := by
  unfold padL
  rw [List.getElem?_append]
  split
  · rfl
  · rw [List.getElem?_replicate]
    by_cases h : j < off
    · rw [if_pos h, if_pos (by omega)]
    · rw [if_neg h, if_neg (by omega)]
theorem out_get (d b : ByteArray) (off j : Nat) : (outL d b off)[j]? = if off ≤ j ∧ j < off + b.size then (byL b)[j - off]? else (padL (byL d) off)[j]? := by
  rw [outL_eq]
  have h1 : ((padL (byL d) off).take off).length = off := by rw [List.length_take, pad_len]; omega
  have h2 : (byL b).length = b.size := byL_len b
  rw [List.append_assoc, List.getElem?_append, h1]
  by_cases c1 : j < off
  · rw [if_pos c1, if_neg (by omega), List.getElem?_take, if_pos c1]
  rw [if_neg c1, List.getElem?_append, h2]
  by_cases c2 : j - off < b.size
  · rw [if_pos c2, if_pos (by omega)]
  rw [if_neg c2, if_neg (by omega), List.getElem?_drop]
  congr 1
  omega
theorem out_part (d b : ByteArray) (off : Nat) : ((outL d b off).drop off).take b.size = byL b := by
  refine List.ext_getElem? (fun j => ?_)
  rw [List.getElem?_take]
  by_cases h : j < b.size
  · rw [if_pos h, List.getElem?_drop, out_get, if_pos (by omega), show off + j - off = j by omega]
  · rw [if_neg h, List.getElem?_eq_none (by rw [byL_len]; omega)]
theorem out_two (d b1 b2 : ByteArray) (off : Nat) : outL (ofL (outL d b1 off)) b2 (off + b1.size) = outL d (b1 ++ b2) off := by
  have hs : (b1 ++ b2).size = b1.size + b2.size := ByteArray.size_append
  refine List.ext_getElem? (fun j => ?_)
  rw [out_get, out_get, pad_get, byL_ofL, outL_len, hs, app_byL]
  by_cases c1 : off + b1.size ≤ j ∧ j < off + b1.size + b2.size
  · rw [if_pos c1, if_pos (by omega), List.getElem?_append, byL_len, if_neg (by omega)]
    congr 1
    omega
  rw [if_neg c1]
  by_cases c2 : off ≤ j ∧ j < off + (b1.size + b2.size)
  · rw [if_pos c2, if_pos (show j < max d.size (off + b1.size) by omega), out_get, if_pos (by omega), List.getElem?_append, byL_len, if_pos (by omega)]
  rw [if_neg c2]
  by_cases c3 : j < max d.size (off + b1.size)
  · rw [if_pos c3, out_get, if_neg (by omega)]
  · rw [if_neg c3, if_neg (by omega), pad_get, if_neg (by rw [byL_len]; omega), if_neg (by omega)]
/-- What stands outside of what is written. -/
theorem out_rest (d b : ByteArray) (off j : Nat) (h : ¬ (off ≤ j ∧ j < off + b.size)) (hj : j < max d.size (off + b.size)) : (outL d b off)[j]? = if j < d.size then (byL d)[j]? else some 0 := by
  rw [out_get, if_neg h, pad_get, byL_len]
  by_cases c : j < d.size
  · rw [if_pos c, if_pos c]
  · rw [if_neg c, if_neg c, if_pos (by omega)]
theorem wrote_root {n : Node} {d : ByteArray} (hk : n.kind = 1) (hok : nodeOk n = true) : wrote rootC n d = { n with data := d } := by
  unfold wrote
  rw [hk, written_root (ok_file hok) rfl]
theorem writeF_ok {T : Tab} (hg : T.good) {k off : Int} {b : ByteArray} (hh : T.has k = true) (hk : (T.at k).kind = 1) (h0 : 0 ≤ off) (hb : 0 < b.size) (h48 : off + (b.size : Int) ≤ 48) :
    T.writeF rootC k off b = (T.put (k - 1).toNat { T.at k with data := ofL (outL (T.at k).data b off.toNat) }, 0) ∧ nodeOk { T.at k with data := ofL (outL (T.at k).data b off.toNat) } = true := by
  have hok := at_okG hg hh
  have hdat : (T.at k).data.size ≤ 48 := by
    have h := hok
    unfold nodeOk at h
    rw [if_pos hk] at h
    simp only [Bool.and_eq_true, decide_eq_true_eq] at h
    exact h.2.2
  have hsz : (ofL (outL (T.at k).data b off.toNat)).size ≤ 48 := by
    show (List.toArray _).size ≤ 48
    rw [List.size_toArray, outL_len]; omega
  have hwk := wrote_ok (c := rootC) (d := ofL (outL (T.at k).data b off.toNat)) hk hok hsz
  unfold Tab.writeF
  rw [if_neg (fun q => q hk), if_neg (by omega), if_neg (by omega), if_neg (by omega)]
  unfold Tab.putE
  rw [if_pos hh, if_pos hwk]
  rw [wrote_root hk hok] at hwk ⊢
  exact ⟨rfl, hwk⟩
theorem read_all {T : Tab} {k : Int} (hk : (T.at k).kind = 1) (hd : (T.at k).data.size ≤ 100) : T.readF k 0 100 = ((T.at k).data, 0) := by
  unfold Tab.readF
  rw [if_neg (fun q => q hk), if_neg (by decide), if_neg (by decide), readB_eq (by decide) (by decide)]
  rw [show (0 : Int).toNat = 0 from rfl, List.drop_zero, List.take_of_length_le (by rw [byL_len]; exact hd), ofL_byL]
structure BackLaw (T : Tab) (k at_ : Int) (b : ByteArray) (P : ByteArray × Int) (W : Tab × Int) : Prop where
  good : W.1.good
  bad : ¬ P.2 = 0 ∨ ¬ W.2 = 0 → W.1 = T
  was : P.2 = 0 → W.2 = 0 → P.1 = (T.at k).data ∧ (T.at k).data.size ≤ 48 ∧ W.1.readF k 0 100 = (ofL (outL (T.at k).data b at_.toNat), 0) ∧ W.1.readF k at_ (b.size : Int) = (b, 0)
  two : P.2 = 0 → W.2 = 0 → ∀ n : Nat, n ≤ b.size → (T.writeF rootC k at_ (ofL ((byL b).take n))).2 = 0 ∧ (T.writeF rootC k at_ (ofL ((byL b).take n))).1.good ∧
    (T.writeF rootC k at_ (ofL ((byL b).take n))).1.writeF rootC k (at_ + (n : Int)) (ofL ((byL b).drop n)) = (W.1, 0)
theorem back_law {T : Tab} (hg : T.good) {k at_ : Int} {b : ByteArray} (h0 : 0 ≤ at_) (hb : 0 < b.size) : BackLaw T k at_ b (T.readF k 0 100) (T.writeF rootC k at_ b) := by
  have hgW := good_writeF hg rootC k at_ b
  by_cases hk : (T.at k).kind = 1
  case neg =>
    have e : T.writeF rootC k at_ b = (T, 9) := by unfold Tab.writeF; rw [if_pos hk]
    rw [e] at hgW ⊢
    exact ⟨hgW, fun _ => rfl, fun _ q => absurd (show (9 : Int) = 0 from q) (by decide), fun _ q => absurd (show (9 : Int) = 0 from q) (by decide)⟩
  by_cases h48 : at_ + (b.size : Int) ≤ 48
  case neg =>
    have e : T.writeF rootC k at_ b = (T, 27) := by
      unfold Tab.writeF; rw [if_neg (fun q => q hk), if_neg (by omega), if_neg (by omega), if_pos (by omega)]
    rw [e] at hgW ⊢
    exact ⟨hgW, fun _ => rfl, fun _ q => absurd (show (27 : Int) = 0 from q) (by decide), fun _ q => absurd (show (27 : Int) = 0 from q) (by decide)⟩
  have hh : T.has k = true := has_kind'.2 (by rw [hk]; decide)
  have hr := has_rng hh
  have hok := at_okG hg hh
  have hdat : (T.at k).data.size ≤ 48 := by
    have h := hok
    unfold nodeOk at h
    rw [if_pos hk] at h
    simp only [Bool.and_eq_true, decide_eq_true_eq] at h
    exact h.2.2
  obtain ⟨e, hwk⟩ := writeF_ok hg hh hk h0 hb h48
  have hoL := outL_len (T.at k).data b at_.toNat
  have hP := read_all hk (by omega : (T.at k).data.size ≤ 100)
  rw [hP]
  rw [e] at hgW ⊢
  have hat : ∀ {n : Node}, nodeOk n = true → (T.put (k - 1).toNat n).at k = n := fun hn => by
    rw [at_put hg (by omega) (.inr hn), if_pos (by omega)]
  have hatW := hat hwk
  refine ⟨hgW, fun q => by rcases q with q | q <;> exact absurd rfl q, fun _ _ => ⟨rfl, hdat, ?_, ?_⟩, fun _ _ n hn => ?_⟩
  · rw [read_all (by rw [hatW]; exact hk) (by rw [hatW]; show (List.toArray _).size ≤ 100; rw [List.size_toArray, hoL]; omega), hatW]
  · unfold Tab.readF
    rw [hatW, if_neg (fun q => q hk), if_neg (by omega), if_neg (by omega), readB_eq h0 (by omega), Int.toNat_natCast]
    show (ofL (((byL (ofL (outL (T.at k).data b at_.toNat))).drop at_.toNat).take b.size), (0 : Int)) = (b, 0)
    rw [byL_ofL, out_part, ofL_byL]
  · have s1 : (ofL ((byL b).take n)).size = n := by show (List.toArray _).size = n; rw [List.size_toArray, List.length_take, byL_len]; omega
    have s2 : (ofL ((byL b).drop n)).size = b.size - n := by show (List.toArray _).size = _; rw [List.size_toArray, List.length_drop, byL_len]
    have hcat : ofL ((byL b).take n) ++ ofL ((byL b).drop n) = b := by rw [ofL_app, List.take_append_drop, ofL_byL]
    by_cases n0 : n = 0
    · subst n0
      have e1 : T.writeF rootC k at_ (ofL ((byL b).take 0)) = (T, 0) := by
        unfold Tab.writeF; rw [if_neg (fun q => q hk), if_neg (by omega), s1, if_pos (show ((0 : Nat) : Int) = 0 from rfl)]
      rw [e1]
      refine ⟨rfl, hg, ?_⟩
      rw [List.drop_zero, ofL_byL, show at_ + ((0 : Nat) : Int) = at_ by omega]
      exact e
    obtain ⟨e1, hwk1⟩ := writeF_ok hg hh hk h0 (b := ofL ((byL b).take n)) (by omega) (by rw [s1]; omega)
    have hg1 := put_good hg (.inr hwk1) (k - 1).toNat
    have hat1 := hat hwk1
    rw [e1]
    refine ⟨rfl, hg1, ?_⟩
    have hk1 : ((T.put (k - 1).toNat { T.at k with data := ofL (outL (T.at k).data (ofL ((byL b).take n)) at_.toNat) }).at k).kind = 1 := by rw [hat1]; exact hk
    by_cases n1 : n = b.size
    · have e2 : ∀ U : Tab, (U.at k).kind = 1 → U.writeF rootC k (at_ + (n : Int)) (ofL ((byL b).drop n)) = (U, 0) := fun U hU => by
        unfold Tab.writeF; rw [if_neg (fun q => q hU), if_neg (by omega), s2, if_pos (by omega)]
      rw [e2 _ hk1, show ofL ((byL b).take n) = b by rw [List.take_of_length_le (by rw [byL_len]; omega), ofL_byL]]
    have hh1 : (T.put (k - 1).toNat { T.at k with data := ofL (outL (T.at k).data (ofL ((byL b).take n)) at_.toNat) }).has k = true := has_kind'.2 (by rw [hk1]; decide)
    obtain ⟨e3, -⟩ := writeF_ok hg1 hh1 hk1 (off := at_ + (n : Int)) (b := ofL ((byL b).drop n)) (by omega) (by rw [s2]; omega) (by rw [s2]; omega)
    rw [e3, hat1, put_put_same]
    have hout := out_two (T.at k).data (ofL ((byL b).take n)) (ofL ((byL b).drop n)) at_.toNat
    rw [s1, hcat] at hout
    rw [show (at_ + (n : Int)).toNat = at_.toNat + n by omega]
    show (T.put (k - 1).toNat { T.at k with data := ofL (outL (ofL (outL (T.at k).data (ofL ((byL b).take n)) at_.toNat)) (ofL ((byL b).drop n)) (at_.toNat + n)) }, (0 : Int)) = _
    rw [hout]
end Abs
end Go.Proofs.Ytpifnlodilcgkaa
