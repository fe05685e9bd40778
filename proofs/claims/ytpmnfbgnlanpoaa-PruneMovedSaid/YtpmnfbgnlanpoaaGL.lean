import Derived.Test.YtpmnfbgnlanpoaaGG
import Derived.Test.YtpmnfbgnlanpoaaY2
import Derived.Test.YtpmnfbgnlanpoaaZ1
set_option linter.unusedVariables false
namespace Go.Proofs.Ytpmnfbgnlanpoaa
namespace Abs
set_option linter.unusedSimpArgs false
set_option maxRecDepth 10000
set_option maxHeartbeats 2000000
attribute [local irreducible] AOps AW AP ACalls thenQ inBlk noGoto

/-! ### chapter 15: the document's examples -/
def exRaws15 : List Raw := [⟨2, 1023, 0, 0, 0, ⟨#[]⟩, ⟨#[]⟩, ⟨#[]⟩, 0⟩, ⟨1, 0, 1, 0, 1, ⟨#[102]⟩, ⟨#[]⟩, ⟨#[]⟩, 0⟩, ⟨1, 0, 2, 0, 1, ⟨#[103]⟩, ⟨#[]⟩, ⟨#[]⟩, 0⟩, ⟨2, 511, 1, 0, 1, ⟨#[100]⟩, ⟨#[]⟩, ⟨#[]⟩, 0⟩]
theorem exRaws15_few : ∀ r ∈ exRaws15, r.few := fun r hr => by
  simp only [exRaws15, List.mem_cons, List.not_mem_nil, or_false] at hr
  rcases hr with rfl | rfl | rfl | rfl <;> exact ⟨by decide, by decide, by decide⟩
def exTab15 : Tab := ((build 9 exRaws15).1).getD (Tab.new 1)
theorem exTab15_some : build 9 exRaws15 = (some exTab15, 0, 0) := by kernel_rfl
theorem exTab15_good : exTab15.good := good_build (by rw [exTab15_some])
def exC15 : Cred := ⟨1, 0, []⟩
theorem exC15_small : exC15.small := (by decide : (0 : Nat) ≤ 1073741824)
def ex15T1 : Tab := (exTab15.unlinkF exC15 (exTab15.resolve exC15 ⟨#[102]⟩ false) []).1
def ex15T2 : Tab := (ex15T1.renameF exC15 (ex15T1.resolve exC15 ⟨#[100]⟩ false) (ex15T1.resolve exC15 ⟨#[104]⟩ false) []).1
def ex15T3 : Tab := (ex15T2.rmdirF exC15 (ex15T2.resolve exC15 ⟨#[104]⟩ false)).1
theorem ex15_1 : (exTab15.unlinkF exC15 (exTab15.resolve exC15 ⟨#[102]⟩ false) []).2 = 0 := by kernel_rfl
theorem ex15_2 : ex15T1.unlinkF exC15 (ex15T1.resolve exC15 ⟨#[103]⟩ false) [] = (ex15T1, 1) := by kernel_rfl
theorem ex15_3 : ex15T1.renameF exC15 (ex15T1.resolve exC15 ⟨#[100]⟩ false) (ex15T1.resolve exC15 ⟨#[100, 47, 101]⟩ false) [] = (ex15T1, 22) := by kernel_rfl
theorem ex15_4 : (ex15T1.renameF exC15 (ex15T1.resolve exC15 ⟨#[100]⟩ false) (ex15T1.resolve exC15 ⟨#[104]⟩ false) []).2 = 0 := by kernel_rfl
theorem ex15_5 : (ex15T2.rmdirF exC15 (ex15T2.resolve exC15 ⟨#[104]⟩ false)).2 = 0 := by kernel_rfl
theorem ex15_6 : ex15T3.used = 2 := by kernel_rfl
theorem ex15_7 : ex15T3.right [] = true := by kernel_rfl
theorem ex15_8 : ex15T3.below 24 3 1 = true := by kernel_rfl
theorem ex15_9 : ex15T3.freeN 3 [] = (ex15T3, false) := by kernel_rfl
theorem ex15T1_good : ex15T1.good := good_unlink exTab15_good _ _ _
theorem ex15T2_good : ex15T2.good := good_rename ex15T1_good _ _ _ _
theorem ex15T3_good : ex15T3.good := good_rmdir ex15T2_good _ _
theorem awake15_c {H : AHeap} {K : AVal → AHeap → Prop} (hK : K (.b true) H) : ACalls Try.prog 26 [] H K := by
  refine acalls_body Try.func26 rfl rfl rfl ?_
  have hg := exTab15_good
  repeat first|(apply gO;first|(apply x1;apply r0;apply r0)|apply w4)|(apply gW;first|apply w6|apply w7)|apply w5
  refine xbd (v := .agg [.i 2, .i 1023, .i 0, .i 0, .i 0, .s ⟨#[]⟩, .sl [] .full, .s ⟨#[]⟩, .i 0]) rfl ?_
  refine xbd (v := .agg [.i 1, .i 0, .i 1, .i 0, .i 1, .s ⟨#[102]⟩, .sl [] .full, .s ⟨#[]⟩, .i 0]) rfl ?_
  refine xbd (v := .agg [.i 1, .i 0, .i 2, .i 0, .i 1, .s ⟨#[103]⟩, .sl [] .full, .s ⟨#[]⟩, .i 0]) rfl ?_
  refine xbd (v := .agg [.i 2, .i 511, .i 1, .i 0, .i 1, .s ⟨#[100]⟩, .sl [] .full, .s ⟨#[]⟩, .i 0]) rfl ?_
  refine xbs (v := .sl [[.i 2, .i 1023, .i 0, .i 0, .i 0, .s ⟨#[]⟩, .sl [] .full, .s ⟨#[]⟩, .i 0], [.i 1, .i 0, .i 1, .i 0, .i 1, .s ⟨#[102]⟩, .sl [] .full, .s ⟨#[]⟩, .i 0], [.i 1, .i 0, .i 2, .i 0, .i 1, .s ⟨#[103]⟩, .sl [] .full, .s ⟨#[]⟩, .i 0], [.i 2, .i 511, .i 1, .i 0, .i 1, .s ⟨#[100]⟩, .sl [] .full, .s ⟨#[]⟩, .i 0]] .full) rfl ?_
  apply x9; apply r0
  refine ACalls.wk (build_c (room := 9) (l := exRaws15) (o := .no) (by decide) exRaws15_few (fun h => by rw [exTab15_some] at h; cases h) (fun T t hT ht => ?_)) (.pair (.refl _) (wk_rows rfl))
  rw [exTab15_some] at hT ⊢
  cases hT
  repeat first|(apply gO;first|(apply x1;apply r0;apply r0)|apply w4)|(apply gW;first|apply w6|apply w7)|apply w5
  refine xbd (v := .agg [.i 1, .i 0, .sl [] .full]) rfl ?_
  refine s_alloc tk rfl rfl rfl (fun b4 hb4 => ?_); have hb := hb4; (try simp only [put_none_iff, prot_none_iff] at hb); (repeat obtain ⟨_, _, hb⟩ := hb)
  (apply xst;apply r0;(apply ps);apply r0)
  rw [put_put]
  refine aops_wk (ds := encCred exC15) rfl ?_
  repeat first|(apply x1;apply r0;apply r0)|(apply x2;apply r0;(apply q0);apply r0)|(apply x9;apply r0)|apply w4|apply w6|apply w7|apply w5
  refine unlink_c (path := ⟨#[102]⟩) (op := []) hg exC15_small (Nat.zero_le _) (by with_reducible repeat first|assumption|apply ps|apply gp) ?_
  rw [ex15_1, show (exTab15.unlinkF exC15 (exTab15.resolve exC15 ⟨#[102]⟩ false) []).1 = ex15T1 from rfl]
  repeat first|(apply x1;apply r0;apply r0)|(apply x2;apply r0;(with_reducible repeat first|assumption|apply q0|apply q3);apply r0)|(apply x9;apply r0)|apply w4|apply w6|apply w7|apply w5
  refine unlink_c (path := ⟨#[103]⟩) (op := []) ex15T1_good exC15_small (Nat.zero_le _) (by apply ps) ?_
  rw [ex15_2]
  repeat first|(apply x1;apply r0;apply r0)|(apply x2;apply r0;(with_reducible repeat first|assumption|apply q0|apply q3);apply r0)|(apply x9;apply r0)|apply w4|apply w6|apply w7|apply w5
  refine rename_c (fr := ⟨#[100]⟩) (tg := ⟨#[100, 47, 101]⟩) (op := []) ex15T1_good exC15_small (Nat.zero_le _) (by apply ps) ?_
  rw [ex15_3]
  repeat first|(apply x1;apply r0;apply r0)|(apply x2;apply r0;(with_reducible repeat first|assumption|apply q0|apply q3);apply r0)|(apply x9;apply r0)|apply w4|apply w6|apply w7|apply w5
  refine rename_c (fr := ⟨#[100]⟩) (tg := ⟨#[104]⟩) (op := []) ex15T1_good exC15_small (Nat.zero_le _) (by apply ps) ?_
  rw [ex15_4, show (ex15T1.renameF exC15 (ex15T1.resolve exC15 ⟨#[100]⟩ false) (ex15T1.resolve exC15 ⟨#[104]⟩ false) []).1 = ex15T2 from rfl]
  repeat first|(apply x1;apply r0;apply r0)|(apply x2;apply r0;(with_reducible repeat first|assumption|apply q0|apply q3);apply r0)|(apply x9;apply r0)|apply w4|apply w6|apply w7|apply w5
  refine rmdir_c (path := ⟨#[104]⟩) ex15T2_good exC15_small (by apply ps) ?_
  rw [ex15_5, show (ex15T2.rmdirF exC15 (ex15T2.resolve exC15 ⟨#[104]⟩ false)).1 = ex15T3 from rfl]
  repeat first|(apply x1;apply r0;apply r0)|(apply x5;apply r0)|(apply x9;apply r0)|apply w4|apply w6|apply w7|apply w5
  refine used_c ex15T3_good.wf (by apply q0) ?_
  rw [ex15_6]
  repeat first|(apply x1;apply r0;apply r0)|(apply x5;apply r0)|(apply x9;apply r0)
  refine tright_c (op := []) ex15T3_good.wf (Nat.zero_le _) (by apply q0) ?_
  rw [ex15_7]
  repeat first|(apply x1;apply r0;apply r0)|(apply x5;apply r0)|(apply x9;apply r0)
  refine below_c ex15T3_good (by apply q0) ?_
  rw [ex15_8]
  repeat first|(apply x1;apply r0;apply r0)|(apply x5;apply r0)|(apply x9;apply r0)
  refine free_c (op := []) ex15T3_good (Nat.zero_le _) (by apply ps) ?_
  rw [ex15_9]
  repeat first|(apply x1;apply r0;apply r0)|(apply x5;apply r0)|apply w4|apply wd|apply w5
  exact rt1 (H' := H) rfl rfl (.refl _) (by repeat first|exact s0|(apply su1;assumption)) hK
end Abs
end Go.Proofs.Ytpmnfbgnlanpoaa
