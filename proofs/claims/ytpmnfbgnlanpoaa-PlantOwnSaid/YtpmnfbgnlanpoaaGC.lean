import Derived.Test.YtpmnfbgnlanpoaaGA
import Derived.Test.YtpmnfbgnlanpoaaY2
import Derived.Test.YtpmnfbgnlanpoaaZ1
set_option linter.unusedVariables false
namespace Go.Proofs.Ytpmnfbgnlanpoaa
namespace Abs
set_option linter.unusedSimpArgs false
set_option maxRecDepth 10000
set_option maxHeartbeats 2000000
attribute [local irreducible] AOps AW AP ACalls thenQ inBlk noGoto

/-! ### chapter 14: the document's examples -/
def exRaws14 : List Raw := [⟨2, 511, 0, 0, 0, ⟨#[]⟩, ⟨#[]⟩, ⟨#[]⟩, 0⟩, ⟨2, 1533, 0, 7, 1, ⟨#[100]⟩, ⟨#[]⟩, ⟨#[]⟩, 0⟩]
theorem exRaws14_few : ∀ r ∈ exRaws14, r.few := fun r hr => by
  simp only [exRaws14, List.mem_cons, List.not_mem_nil, or_false] at hr
  rcases hr with rfl | rfl <;> exact ⟨by decide, by decide, by decide⟩
def exTab14 : Tab := ((build 9 exRaws14).1).getD (Tab.new 1)
theorem exTab14_some : build 9 exRaws14 = (some exTab14, 0, 0) := by kernel_rfl
theorem exTab14_good : exTab14.good := good_build (by rw [exTab14_some])
def exC14 : Cred := ⟨1, 1, [7]⟩
theorem exC14_small : exC14.small := (by decide : (1 : Nat) ≤ 1073741824)
def ex14T1 : Tab := (exTab14.plant exC14 (exTab14.resolve exC14 ⟨#[120]⟩ false) (dirN 511 18)).1
def ex14T2 : Tab := (ex14T1.plant exC14 (ex14T1.resolve exC14 ⟨#[100, 47, 120]⟩ false) (dirN 511 18)).1
def ex14T3 : Tab := (ex14T2.plant exC14 (ex14T2.resolve exC14 ⟨#[102]⟩ true) (fun _ => fileN 438 18)).1
def ex14T4 : Tab := (ex14T3.symlink exC14 ⟨#[102]⟩ ⟨#[115]⟩).1
theorem ex14_1 : (exTab14.plant exC14 (exTab14.resolve exC14 ⟨#[120]⟩ false) (dirN 511 18)).2.2 = 0 := by kernel_rfl
theorem ex14_2 : (ex14T1.plant exC14 (ex14T1.resolve exC14 ⟨#[100, 47, 120]⟩ false) (dirN 511 18)).2.2 = 0 := by kernel_rfl
theorem ex14_3 : ex14T2.plant exC14 (ex14T2.resolve exC14 ⟨#[120]⟩ false) (dirN 511 18) = (ex14T2, 0, 17) := by kernel_rfl
theorem ex14_4 : ex14T2.at 3 = ⟨2, 493, 1, 1, ⟨#[]⟩, [], ⟨#[]⟩⟩ := by kernel_rfl
theorem ex14_5 : ex14T2.at 4 = ⟨2, 1517, 1, 7, ⟨#[]⟩, [], ⟨#[]⟩⟩ := by kernel_rfl
theorem ex14_6 : (ex14T2.plant exC14 (ex14T2.resolve exC14 ⟨#[102]⟩ true) (fun _ => fileN 438 18)).2 = (5, 0) := by kernel_rfl
theorem ex14_7 : (ex14T3.symlink exC14 ⟨#[102]⟩ ⟨#[115]⟩).2 = 0 := by kernel_rfl
theorem ex14_8 : ex14T4.used = 6 := by kernel_rfl
theorem ex14_9 : ex14T4.right [] = true := by kernel_rfl
theorem symlink_good {T : Tab} (h : T.good) (c : Cred) (target path : ByteArray) : (T.symlink c target path).1.good := by
  unfold Tab.symlink
  split
  · exact h
  split
  · exact h
  split
  · exact h
  exact plant_good h _ _ _
theorem ex14T1_good : ex14T1.good := plant_good exTab14_good _ _ _
theorem ex14T2_good : ex14T2.good := plant_good ex14T1_good _ _ _
theorem ex14T3_good : ex14T3.good := plant_good ex14T2_good _ _ _
theorem ex14T4_good : ex14T4.good := symlink_good ex14T3_good _ _ _
theorem awake14_c {H : AHeap} {K : AVal → AHeap → Prop} (hK : K (.b true) H) : ACalls Try.prog 9 [] H K := by
  refine acalls_body Try.func9 rfl rfl rfl ?_
  have hg := exTab14_good
  repeat first|(apply gO;first|(apply x1;apply r0;apply r0)|apply w4)|(apply gW;first|apply w6|apply w7)|apply w5
  refine xbd (v := .agg [.i 2, .i 511, .i 0, .i 0, .i 0, .s ⟨#[]⟩, .sl [] .full, .s ⟨#[]⟩, .i 0]) rfl ?_
  refine xbd (v := .agg [.i 2, .i 1533, .i 0, .i 7, .i 1, .s ⟨#[100]⟩, .sl [] .full, .s ⟨#[]⟩, .i 0]) rfl ?_
  refine xbs (v := .sl [[.i 2, .i 511, .i 0, .i 0, .i 0, .s ⟨#[]⟩, .sl [] .full, .s ⟨#[]⟩, .i 0], [.i 2, .i 1533, .i 0, .i 7, .i 1, .s ⟨#[100]⟩, .sl [] .full, .s ⟨#[]⟩, .i 0]] .full) rfl ?_
  apply x9; apply r0
  refine ACalls.wk (build_c (room := 9) (l := exRaws14) (o := .no) (by decide) exRaws14_few (fun h => by rw [exTab14_some] at h; cases h) (fun T t hT ht => ?_)) (.pair (.refl _) (wk_rows rfl))
  rw [exTab14_some] at hT ⊢
  cases hT
  repeat first|(apply gO;first|(apply x1;apply r0;apply r0)|apply w4)|(apply gW;first|apply w6|apply w7)|apply w5
  refine xbs (v := .sl [[.i 7]] .full) rfl ?_
  refine xbd (v := .agg [.i 1, .i 1, .sl [[.i 7]] .full]) rfl ?_
  refine s_alloc tk rfl rfl rfl (fun b4 hb4 => ?_); have hb := hb4; (try simp only [put_none_iff, prot_none_iff] at hb); (repeat obtain ⟨_, _, hb⟩ := hb)
  (apply xst;apply r0;(apply ps);apply r0)
  rw [put_put]
  refine aops_wk (ds := encCred exC14) rfl ?_
  repeat first|(apply x1;apply r0;apply r0)|(apply x2;apply r0;(apply q0);apply r0)|(apply x9;apply r0)|apply w4|apply w6|apply w7|apply w5
  refine mkdir_c (path := ⟨#[120]⟩) hg exC14_small (by with_reducible repeat first|assumption|apply ps|apply gp) ?_
  rw [ex14_1, show (exTab14.plant exC14 (exTab14.resolve exC14 ⟨#[120]⟩ false) (dirN 511 18)).1 = ex14T1 from rfl]
  repeat first|(apply x1;apply r0;apply r0)|(apply x2;apply r0;(with_reducible repeat first|assumption|apply q0|apply q3);apply r0)|(apply x9;apply r0)|apply w4|apply w6|apply w7|apply w5
  refine mkdir_c (path := ⟨#[100, 47, 120]⟩) ex14T1_good exC14_small (by apply ps) ?_
  rw [ex14_2, show (ex14T1.plant exC14 (ex14T1.resolve exC14 ⟨#[100, 47, 120]⟩ false) (dirN 511 18)).1 = ex14T2 from rfl]
  repeat first|(apply x1;apply r0;apply r0)|(apply x2;apply r0;(with_reducible repeat first|assumption|apply q0|apply q3);apply r0)|(apply x9;apply r0)|apply w4|apply w6|apply w7|apply w5
  refine mkdir_c (path := ⟨#[120]⟩) ex14T2_good exC14_small (by apply ps) ?_
  rw [ex14_3]
  repeat first|(apply x1;apply r0;apply r0)|(apply x9;apply r0)|apply w4|apply w6|apply w7|apply w5
  refine tget_c ex14T2_good.wf (by apply q0) ?_
  rw [ex14_4]
  repeat (apply x1;apply r0;apply r0)
  refine s_alloc tk rfl rfl rfl (fun b8 hb8 => ?_); have hb := hb8; (try simp only [put_none_iff, prot_none_iff] at hb); (repeat obtain ⟨_, _, hb⟩ := hb)
  repeat first|(apply x1;apply r0;apply r0)|(apply xst;apply r0;(apply ps);apply r0)|(apply x9;apply r0)|apply w4|apply w6|apply w7|apply w5
  refine tget_c ex14T2_good.wf (by with_reducible repeat first|assumption|apply q0|apply q3) ?_
  rw [ex14_5]
  repeat (apply x1;apply r0;apply r0)
  refine s_alloc tk rfl rfl rfl (fun b10 hb10 => ?_); have hb := hb10; (try simp only [put_none_iff, prot_none_iff] at hb); (repeat obtain ⟨_, _, hb⟩ := hb)
  repeat first|(apply gO;first|(apply x1;apply r0;apply r0)|(apply x2;apply r0;(with_reducible repeat first|assumption|apply q0|apply ps|apply q3);apply r0)|(apply xst;apply r0;(with_reducible repeat first|assumption|apply q0|apply ps|apply q3);apply r0)|(apply x9;apply r0)|apply w4)|(apply gW;first|apply w6|apply w7)|apply w5
  refine create_c (path := ⟨#[102]⟩) ex14T2_good exC14_small (by with_reducible repeat first|assumption|apply ps|apply gp) ?_
  rw [ex14_6, show (ex14T2.plant exC14 (ex14T2.resolve exC14 ⟨#[102]⟩ true) (fun _ => fileN 438 18)).1 = ex14T3 from rfl]
  repeat first|(apply x1;apply r0;apply r0)|(apply x2;apply r0;(with_reducible repeat first|assumption|apply q0|apply q3);apply r0)|(apply x9;apply r0)|apply w4|apply w6|apply w7|apply w5
  refine symlink_c (target := ⟨#[102]⟩) (path := ⟨#[115]⟩) ex14T3_good exC14_small (by apply ps) ?_
  rw [ex14_7, show (ex14T3.symlink exC14 ⟨#[102]⟩ ⟨#[115]⟩).1 = ex14T4 from rfl]
  repeat first|(apply gO;first|(apply x1;apply r0;apply r0)|(apply x2;apply r0;(with_reducible repeat first|assumption|apply q0|apply q3);apply r0)|(apply x5;apply r0)|(apply x9;apply r0)|apply w4)|(apply gW;first|apply w6|apply w7)|apply w5
  refine used_c ex14T4_good.wf (by apply q0) ?_
  rw [ex14_8]
  repeat first|(apply x1;apply r0;apply r0)|(apply x5;apply r0)|(apply x9;apply r0)
  refine tright_c (op := []) ex14T4_good.wf (Nat.zero_le _) (by apply q0) ?_
  rw [ex14_9]
  repeat first|(apply x1;apply r0;apply r0)|apply w4|apply wd|apply w5
  exact rt1 (H' := H) rfl rfl (.refl _) (by repeat first|exact s0|(apply su1;assumption)) hK
end Abs
end Go.Proofs.Ytpmnfbgnlanpoaa
