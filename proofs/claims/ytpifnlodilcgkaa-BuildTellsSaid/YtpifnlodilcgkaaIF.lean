import Derived.Test.YtpifnlodilcgkaaIA
import Derived.Test.YtpifnlodilcgkaaID
import Derived.Test.YtpifnlodilcgkaaIE
import Derived.Test.YtpifnlodilcgkaaY1
set_option linter.unusedVariables false
namespace Go.Proofs.Ytpifnlodilcgkaa
namespace Abs
set_option linter.unusedSimpArgs false
set_option maxRecDepth 10000
set_option maxHeartbeats 2000000
attribute [local irreducible] AOps AW AP ACalls thenQ inBlk noGoto

/-! ### chapter 10: the document's example -/
def exRaws10 : List Raw := [⟨2, 493, 0, 0, 0, ⟨#[]⟩, ⟨#[]⟩, ⟨#[]⟩, 0⟩, ⟨1, 0, 0, 0, 1, ⟨#[97]⟩, ⟨#[]⟩, ⟨#[]⟩, 0⟩, ⟨4, 0, 0, 0, 1, ⟨#[98]⟩, ⟨#[]⟩, ⟨#[]⟩, 2⟩]
def exRaws10b : List Raw := [⟨2, 0, 0, 0, 0, ⟨#[]⟩, ⟨#[]⟩, ⟨#[]⟩, 0⟩, ⟨1, 0, 0, 0, 2, ⟨#[97]⟩, ⟨#[]⟩, ⟨#[]⟩, 0⟩]
theorem exRaws10_few : ∀ r ∈ exRaws10, r.few := fun r hr => by
  simp only [exRaws10, List.mem_cons, List.not_mem_nil, or_false] at hr
  rcases hr with rfl | rfl | rfl <;> exact ⟨by decide, by decide, by decide⟩
theorem exRaws10b_few : ∀ r ∈ exRaws10b, r.few := fun r hr => by
  simp only [exRaws10b, List.mem_cons, List.not_mem_nil, or_false] at hr
  rcases hr with rfl | rfl <;> exact ⟨by decide, by decide, by decide⟩
def exTab10 : Tab := ((build 5 exRaws10).1).getD (Tab.new 1)
theorem exTab10_some : build 5 exRaws10 = (some exTab10, 0, 0) := by kernel_rfl
theorem exTab10_none : build 5 exRaws10b = (none, 1, 2) := by kernel_rfl
theorem exTab10_good : exTab10.good := good_build (by rw [exTab10_some])
theorem ex10_1 : exTab10.used = 2 := by kernel_rfl
theorem ex10_2 : exTab10.links 2 = 2 := by kernel_rfl
theorem ex10_3 : exTab10.right [] = true := by kernel_rfl
theorem ex10_4 : (encRaws exTab10.tell).length = 3 := by kernel_rfl
theorem awake10_c {H : AHeap} {K : AVal → AHeap → Prop} (hK : K (.b true) H) : ACalls Try.prog 22 [] H K := by
  refine acalls_body Try.func22 rfl rfl rfl ?_
  have hg := exTab10_good
  repeat first|(apply gO;first|(apply x1;apply r0;apply r0)|apply w4)|(apply gW;first|apply w6|apply w7)|apply w5
  refine xbd (v := .agg (encRawO ⟨2, 493, 0, 0, 0, ⟨#[]⟩, ⟨#[]⟩, ⟨#[]⟩, 0⟩ .full)) rfl ?_
  refine xbd (v := .agg (encRawO ⟨1, 0, 0, 0, 1, ⟨#[97]⟩, ⟨#[]⟩, ⟨#[]⟩, 0⟩ .full)) rfl ?_
  refine xbd (v := .agg (encRawO ⟨4, 0, 0, 0, 1, ⟨#[98]⟩, ⟨#[]⟩, ⟨#[]⟩, 2⟩ .full)) rfl ?_
  refine xbs (v := .sl [encRawO ⟨2, 493, 0, 0, 0, ⟨#[]⟩, ⟨#[]⟩, ⟨#[]⟩, 0⟩ .full, encRawO ⟨1, 0, 0, 0, 1, ⟨#[97]⟩, ⟨#[]⟩, ⟨#[]⟩, 0⟩ .full, encRawO ⟨4, 0, 0, 0, 1, ⟨#[98]⟩, ⟨#[]⟩, ⟨#[]⟩, 2⟩ .full] .full) rfl ?_
  apply x9; apply r0
  refine ACalls.wk (build_c (room := 5) (l := exRaws10) (o := .no) (by decide) exRaws10_few (fun h => by rw [exTab10_some] at h; cases h) (fun T t hT ht => ?_)) (.pair (.refl _) (wk_rows rfl))
  rw [exTab10_some] at hT ⊢
  cases hT
  repeat first|(apply gO;first|(apply x1;apply r0;apply r0)|apply w4)|(apply gW;first|apply w6|apply w7)|apply w5
  refine xbd (v := .agg (encRawO ⟨2, 0, 0, 0, 0, ⟨#[]⟩, ⟨#[]⟩, ⟨#[]⟩, 0⟩ .full)) rfl ?_
  refine xbd (v := .agg (encRawO ⟨1, 0, 0, 0, 2, ⟨#[97]⟩, ⟨#[]⟩, ⟨#[]⟩, 0⟩ .full)) rfl ?_
  refine xbs (v := .sl [encRawO ⟨2, 0, 0, 0, 0, ⟨#[]⟩, ⟨#[]⟩, ⟨#[]⟩, 0⟩ .full, encRawO ⟨1, 0, 0, 0, 2, ⟨#[97]⟩, ⟨#[]⟩, ⟨#[]⟩, 0⟩ .full] .full) rfl ?_
  apply x9; apply r0
  refine ACalls.wk (build_c (room := 5) (l := exRaws10b) (o := .no) (by decide) exRaws10b_few (fun h => ?_) (fun T t hT ht => by rw [exTab10_none] at hT; cases hT)) (.pair (.refl _) (wk_rows rfl))
  rw [exTab10_none]
  repeat first|(apply x1;apply r0;apply r0)|(apply x5;apply r0)|(apply x9;apply r0)|apply w4|apply w6|apply w7|apply w5
  refine used_c hg.wf (by apply q0) ?_
  rw [ex10_1]
  repeat first|(apply x1;apply r0;apply r0)|(apply x5;apply r0)|(apply x9;apply r0)
  refine links_c hg.wf (by apply q0) ?_
  rw [ex10_2]
  repeat first|(apply x1;apply r0;apply r0)|(apply x5;apply r0)|(apply x9;apply r0)
  refine tright_c (op := []) hg.wf (Nat.zero_le _) (by apply q0) ?_
  rw [ex10_3]
  repeat first|(apply x1;apply r0;apply r0)|(apply x5;apply r0)|(apply x9;apply r0)
  refine tell_c hg (by apply q0) ?_
  repeat first|(apply x1;apply r0;apply r0)|(apply x5;apply r0)|apply w4|apply wd|apply w5
  rw [ex10_4]
  skip
  exact rt1 (H' := H) rfl rfl (.refl _) (by repeat first|exact s0|(apply su1;assumption)) hK
end Abs
end Go.Proofs.Ytpifnlodilcgkaa

set_option linter.unusedVariables false
namespace Go.Proofs.Ytpifnlodilcgkaa
namespace Abs
set_option linter.unusedSimpArgs false
set_option maxRecDepth 10000
set_option maxHeartbeats 2000000
attribute [local irreducible] AOps AW AP ACalls thenQ inBlk noGoto

/-! ### BuildRight -/
end Abs
end Go.Proofs.Ytpifnlodilcgkaa
