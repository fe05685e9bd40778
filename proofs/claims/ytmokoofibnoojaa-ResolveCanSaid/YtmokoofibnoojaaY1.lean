import Derived.Test.YtmokoofibnoojaaXH
set_option linter.unusedVariables false
namespace Go.Proofs.Ytmokoofibnoojaa
namespace Abs
set_option linter.unusedSimpArgs false
set_option maxRecDepth 10000
set_option maxHeartbeats 2000000
attribute [local irreducible] AOps AW AP ACalls thenQ inBlk noGoto

/-! ### what is built, and the document's example -/
theorem buildFrom_some : ∀ {l : List Raw} {T : Tab} {i : Int}, ((buildFrom T i l).1 ≠ none → (buildFrom T i l).2 = (0, 0)) ∧ ((buildFrom T i l).1 = none → (buildFrom T i l).2.2 ≠ 0)
  | [], T, i => ⟨fun _ => rfl, fun h => by cases h⟩
  | r :: l, T, i => by
    rw [buildFrom_cons]
    split
    · exact buildFrom_some
    · rename_i h
      exact ⟨fun h' => absurd rfl h', fun _ => h⟩
theorem build_some {room : Int} {l : List Raw} : ((build room l).1 ≠ none → (build room l).2 = (0, 0)) ∧ ((build room l).1 = none → (build room l).2.2 ≠ 0) := by
  cases l with
  | nil => exact ⟨fun h => absurd rfl h, fun _ => (by decide : (22 : Int) ≠ 0)⟩
  | cons r l =>
    rw [build_cons]
    split
    · exact ⟨fun h => absurd rfl h, fun _ => (by decide : (22 : Int) ≠ 0)⟩
    · split
      · rename_i h
        exact ⟨fun h' => absurd rfl h', fun _ => h⟩
      · exact buildFrom_some
structure Built (room : Int) (l : List Raw) (c : Cred) (T : Tab) : Prop where
  len : l.length ≤ 50
  groups : c.groups.length ≤ 10
  few : ∀ r ∈ l, r.few
  tree : (build room l).1 = some T
theorem Built.good {room : Int} {l : List Raw} {c : Cred} {T : Tab} (h : Built room l c T) : T.good := good_build h.tree
theorem Built.small {room : Int} {l : List Raw} {c : Cred} {T : Tab} (h : Built room l c T) : c.small := by have := h.groups; unfold Cred.small; omega
theorem built11_c {room : Int} {l : List Raw} (hl : l.length ≤ 9223372036854775807) {c : Cred} {o : Own} {H : AHeap} {K : AVal → AHeap → Prop} (h0 : K (.tup [.nilp, .b false]) H)
    (h1 : ∀ T t, Built room l c T → H t = none → K (.tup [.ptr t 0, .b true]) (H.put t (.cells (encTab T)))) : ACalls Try.prog 15 [.i room, .sl (encRaws l) o, .agg (encCred c)] H K := by
  refine acalls_body Try.func15 rfl rfl rfl ?_
  have ll := raws_len l
  have lg := ints_len c.groups
  repeat first|apply w6|apply w7
  refine s_box rfl rfl rfl (fun b5 hb5 => ?_); have hb := hb5; (try simp only [put_none_iff, prot_none_iff] at hb); (repeat obtain ⟨_, _, hb⟩ := hb)
  repeat first|(apply x1;apply r0;apply r0)|apply w4|apply w6|apply w7|apply w5
  refine s_gsplit rfl rfl (fun g1 => ?_) (fun g1 => ?_)<;>first|replace g1:=of_decide_eq_true g1|replace g1:=of_decide_eq_false g1
  · repeat first|(apply gO;first|(apply x1;apply r0;apply r0)|apply w4|(apply w3;apply r0;apply r0))|(apply gW;first|apply w6|apply w7|(apply w8;apply r0)|apply wd)|apply w5|apply we
    exact rt2 (H' := H) rfl rfl rfl (.refl _) (by repeat first|exact s0|(apply su1;assumption)) h0
  repeat first|(apply x1;apply r0;apply r0)|(apply x2;apply r0;(apply q0);apply r0)|(apply x5;apply r0)|apply w4|apply w5
  refine aw_cond rfl (fun g2 => ?_) (fun g2 => ?_)<;>first|replace g2:=of_decide_eq_true g2|replace g2:=of_decide_eq_false g2
  · repeat first|(apply x1;apply r0;apply r0)|apply w4|apply w6|apply w7|apply wd|apply w5|apply we
    exact rt2 (H' := H) rfl rfl rfl (.refl _) (by repeat first|exact s0|(apply su1;assumption)) h0
  repeat first|(apply x1;apply r0;apply r0)|apply w4|apply w6|apply w7|apply wa|apply wb|apply w5
  refine aw_loop (fun k : Nat => k ≤ l.length ∧ ∀ j (h : j < l.length), j < k → l[j].few) (fun k => [(0, .i room), (1, .sl (encRaws l) o), (8, .i k)]) (fun _ => H) (fun k => l.length - k) 0 ⟨Nat.zero_le _, fun j _ h => absurd h (Nat.not_lt_zero _)⟩ (by repeat (first | exact Fr.sub_nil _ | refine Fr.sub_cons rfl ?_)) (by repeat first|exact s0|(apply su1;assumption)) ?_
  rintro k ⟨hk, hall⟩
  repeat first|(apply x1;apply r0;apply r0)|apply w4|apply w6|apply w7|apply w5
  refine aw_cond rfl (fun c1 => ?_) (fun c1 => ?_)<;>first|replace c1:=of_decide_eq_true c1|replace c1:=of_decide_eq_false c1
  case refine_2 =>
    have hfew : ∀ r ∈ l, r.few := fun r hr => by
      obtain ⟨j, hj, rfl⟩ := List.mem_iff_getElem.1 hr
      exact hall j hj (by omega)
    have hbs := build_some (room := room) (l := l)
    repeat first|(apply gO;first|(apply x1;apply r0;apply r0)|(apply x9;apply r0))|(apply gW;first|apply w6|apply w7|apply wc)|apply w5|apply wf|apply wh
    refine build_c (by omega) hfew (fun hn => ?_) (fun T t hT ht => ?_)
    · have he := hbs.2 hn
      repeat first|(apply x1;apply r0;apply r0)|apply w4|apply w6|apply w7|apply wd|apply w5
      refine rt2 (H' := H) rfl rfl rfl (.refl _) s0 ?_
      rw [decide_eq_false he]; exact h0
    · have he := hbs.1 (by rw [hT]; simp)
      rw [he]
      repeat first|(apply x1;apply r0;apply r0)|apply w4|apply w6|apply w7|apply wd|apply w5
      exact rt2 rfl rfl rfl (.refl _) s0 (h1 T t ⟨by omega, by omega, hfew, hT⟩ ht)
  have c1' : k < l.length := by omega
  have hget : (encRaws l)[(k : Int).toNat]? = some (encRaw l[k]) := by simp [encRaws, c1']
  have lb := encBytes_len l[k].data
  repeat first|(apply x1;apply r0;apply r0)|apply w6|apply w7|apply wa|apply wb|apply w5
  refine s_index tk rfl rfl rfl rfl (by omega) hget rfl ?_
  repeat first|(apply x1;apply r0;apply r0)|(apply x3;apply r0)
  refine s_gsplit rfl rfl (fun g3 => ?_) (fun g3 => ?_)<;>first|replace g3:=of_decide_eq_true g3|replace g3:=of_decide_eq_false g3
  · repeat first|(apply gO;first|(apply x1;apply r0;apply r0)|apply w4|(apply w3;apply r0;apply r0))|(apply gW;first|apply w6|apply w7|(apply w8;apply r0)|apply wd)|apply w5|apply we|apply wj
    exact rt2 (H' := H) rfl rfl rfl (.refl _) s0 h0
  repeat first|(apply x1;apply r0;apply r0)|(apply x5;apply r0)
  refine s_index tk rfl rfl rfl rfl (by omega) hget rfl ?_
  repeat first|(apply x1;apply r0;apply r0)|(apply x3;apply r0)|(apply x5;apply r0)
  refine s_gsplit rfl rfl (fun g4 => ?_) (fun g4 => ?_)<;>first|replace g4:=of_decide_eq_true g4|replace g4:=of_decide_eq_false g4
  · repeat first|(apply gO;first|(apply x1;apply r0;apply r0)|apply w4|(apply w3;apply r0;apply r0))|(apply gW;first|apply w6|apply w7|(apply w8;apply r0)|apply wd)|apply w5|apply we|apply wj
    exact rt2 (H' := H) rfl rfl rfl (.refl _) s0 h0
  repeat first|(apply x1;apply r0;apply r0)|(apply x5;apply r0)
  refine s_index tk rfl rfl rfl rfl (by omega) hget rfl ?_
  repeat first|(apply x1;apply r0;apply r0)|(apply x3;apply r0)|(apply x5;apply r0)|apply w4|apply w5
  refine aw_cond rfl (fun g5 => ?_) (fun g5 => ?_)<;>first|replace g5:=of_decide_eq_true g5|replace g5:=of_decide_eq_false g5
  · repeat first|(apply gO;first|(apply x1;apply r0;apply r0)|apply w4)|(apply gW;first|apply w6|apply w7|apply wd)|apply w5|apply we|apply wj
    exact rt2 (H' := H) rfl rfl rfl (.refl _) s0 h0
  repeat first|(apply x1;apply r0;apply r0)|apply w4|(apply x6;apply r0;omega)|apply w7|apply wa|apply w5|apply wg
  refine ⟨k + 1, ⟨c1', fun j hj hjk => ?_⟩, by omega, (by repeat (first | exact Fr.sub_nil _ | refine Fr.sub_cons rfl ?_)), s0⟩
  rcases Nat.lt_or_ge j k with h | h
  · exact hall j hj h
  · have : j = k := by omega
    subst this
    exact ⟨by omega, by omega, by omega⟩

def encRawO (r : Raw) (o : Own) : List AVal := [.i r.kind, .i r.mode, .i r.uid, .i r.gid, .i r.parent, .s r.name, .sl (encBytes r.data) o, .s r.target, .i r.node]
def exRaw1 : Raw := ⟨2, 493, 0, 0, 0, ⟨#[]⟩, ⟨#[]⟩, ⟨#[]⟩, 0⟩
def exRaw2 : Raw := ⟨2, 488, 1, 1, 1, ⟨#[100]⟩, ⟨#[]⟩, ⟨#[]⟩, 0⟩
def exRaw3 : Raw := ⟨1, 420, 1, 1, 2, ⟨#[102]⟩, ⟨#[104, 105]⟩, ⟨#[]⟩, 0⟩
def exRaw4 : Raw := ⟨3, 511, 0, 0, 1, ⟨#[115]⟩, ⟨#[]⟩, ⟨#[100, 47, 102]⟩, 0⟩
def exRaws : List Raw := [⟨2, 493, 0, 0, 0, ⟨#[]⟩, ⟨#[]⟩, ⟨#[]⟩, 0⟩, ⟨2, 488, 1, 1, 1, ⟨#[100]⟩, ⟨#[]⟩, ⟨#[]⟩, 0⟩, ⟨1, 420, 1, 1, 2, ⟨#[102]⟩, ⟨#[104, 105]⟩, ⟨#[]⟩, 0⟩, ⟨3, 511, 0, 0, 1, ⟨#[115]⟩, ⟨#[]⟩, ⟨#[100, 47, 102]⟩, 0⟩]
theorem exRaws_few : ∀ r ∈ exRaws, r.few := fun r hr => by
  simp only [exRaws, List.mem_cons, List.not_mem_nil, or_false] at hr
  rcases hr with rfl | rfl | rfl | rfl <;> exact ⟨by decide, by decide, by decide⟩
def exTab : Tab := ((build 9 exRaws).1).getD (Tab.new 1)
theorem exTab_some : build 9 exRaws = (some exTab, 0, 0) := by kernel_rfl
theorem exTab_good : exTab.good := good_build (by rw [exTab_some])
def exC1 : Cred := ⟨1, 1, []⟩
def exC3 : Cred := ⟨3, 3, []⟩
theorem ex_r1 : exTab.resolve exC1 ⟨#[115]⟩ true = (⟨2, ⟨#[102]⟩, 3⟩, 0) := by kernel_rfl
theorem ex_r2 : exTab.resolve exC1 ⟨#[115]⟩ false = (⟨1, ⟨#[115]⟩, 4⟩, 0) := by kernel_rfl
theorem ex_r3 : exTab.resolve exC1 ⟨#[100, 47, 120]⟩ true = (⟨2, ⟨#[120]⟩, 0⟩, 0) := by kernel_rfl
theorem ex_r4 : exTab.resolve exC3 ⟨#[100, 47, 102]⟩ true = (Found.zero, 13) := by kernel_rfl
theorem ex_c1 : exTab.can exC1 3 6 = true := by kernel_rfl
theorem ex_c2 : exTab.can exC1 3 1 = false := by kernel_rfl
end Abs
end Go.Proofs.Ytmokoofibnoojaa
