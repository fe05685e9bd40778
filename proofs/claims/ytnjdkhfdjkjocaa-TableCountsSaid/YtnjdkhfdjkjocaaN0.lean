import Derived.Test.YtnjdkhfdjkjocaaM0
import Derived.Test.YtnjdkhfdjkjocaaA9
set_option linter.unusedVariables false
namespace Go.Proofs.Ytnjdkhfdjkjocaa
namespace Abs
set_option maxRecDepth 10000

theorem uni_nil (k : Nat) : Uni k [] := fun x h => by cases h
theorem sub_free {H : AHeap} {o o' : Own} (h : Apart (H.free o) o') (ho : o = .full) : H.sub ((H.free o).own o') := by
  subst ho
  cases o' with
  | no => exact h.elim
  | full => exact AHeap.sub_refl _
  | tok b e s => exact sub_new h (AHeap.sub_refl _)

theorem clone_bytes {xs : List (List AVal)} {o : Own} {H : AHeap} {K : AVal → AHeap → Prop} (hu : Uni 1 xs) (hf : flatA xs.flatten = true) (hl : xs.length * 1 ≤ 140737488355328) (hK : K (.sl xs .no) H) :
    ACalls Try.prog 88 [.sl xs o] H K := by
  refine acalls_body Try.func88 rfl rfl rfl ?_
  repeat (first | refine w1 rfl rfl ?_ | refine w2 rfl ?_ | refine w3 rfl rfl ?_ | refine w4 ?_ | refine w5 ?_ | refine w6 ?_ | refine w7 ?_ | refine w8 rfl ?_ | refine w9 rfl ?_ | refine wa ?_ | refine wd ?_ | refine we ?_ | refine wb ?_ | refine wc ?_ | refine wf ?_ | refine wg ?_ | refine wh ?_ | refine wi rfl ?_ | refine wj ?_ | refine wk ?_ | refine wl ?_ | refine wm ?_ | refine wn ?_)
  refine s_slnil tk rfl rfl rfl (fun b hb => ?_)
  repeat (first | refine w1 rfl rfl ?_ | refine w2 rfl ?_ | refine w3 rfl rfl ?_ | refine w4 ?_ | refine w5 ?_ | refine w6 ?_ | refine w7 ?_ | refine w8 rfl ?_ | refine w9 rfl ?_ | refine wa ?_ | refine wd ?_ | refine we ?_ | refine wb ?_ | refine wc ?_ | refine wf ?_ | refine wg ?_ | refine wh ?_ | refine wi rfl ?_ | refine wj ?_ | refine wk ?_ | refine wl ?_ | refine wm ?_ | refine wn ?_)
  refine aw_cond rfl (fun h => ?_) (fun h => ?_)
  · have := hb h
    subst this
    repeat (first | refine w1 rfl rfl ?_ | refine w2 rfl ?_ | refine w3 rfl rfl ?_ | refine w4 ?_ | refine w5 ?_ | refine w6 ?_ | refine w7 ?_ | refine w8 rfl ?_ | refine w9 rfl ?_ | refine wa ?_ | refine wd ?_ | refine we ?_ | refine wb ?_ | refine wc ?_ | refine wf ?_ | refine wg ?_ | refine wh ?_ | refine wi rfl ?_ | refine wj ?_ | refine wk ?_ | refine wl ?_ | refine wm ?_ | refine wn ?_)
    exact rt1 rfl rfl (.sl _ _) (AHeap.sub_refl _) hK
  · repeat (first | refine w1 rfl rfl ?_ | refine w2 rfl ?_ | refine w3 rfl rfl ?_ | refine w4 ?_ | refine w5 ?_ | refine w6 ?_ | refine w7 ?_ | refine w8 rfl ?_ | refine w9 rfl ?_ | refine wa ?_ | refine wd ?_ | refine we ?_ | refine wb ?_ | refine wc ?_ | refine wf ?_ | refine wg ?_ | refine wh ?_ | refine wi rfl ?_ | refine wj ?_ | refine wk ?_ | refine wl ?_ | refine wm ?_ | refine wn ?_)
    refine s_bslice tk rfl rfl rfl rfl rfl rfl (uni_nil _) (by decide) ?_
    repeat (first | refine w1 rfl rfl ?_ | refine w2 rfl ?_ | refine w3 rfl rfl ?_ | refine w4 ?_ | refine w5 ?_ | refine w6 ?_ | refine w7 ?_ | refine w8 rfl ?_ | refine w9 rfl ?_ | refine wa ?_ | refine wd ?_ | refine we ?_ | refine wb ?_ | refine wc ?_ | refine wf ?_ | refine wg ?_ | refine wh ?_ | refine wi rfl ?_ | refine wj ?_ | refine wk ?_ | refine wl ?_ | refine wm ?_ | refine wn ?_)
    refine s_append tk rfl rfl rfl rfl rfl (uni_nil _) hu hf trivial trivial (by simpa using hl) (fun o' h1 h2 => ?_)
    repeat (first | refine w1 rfl rfl ?_ | refine w2 rfl ?_ | refine w3 rfl rfl ?_ | refine w4 ?_ | refine w5 ?_ | refine w6 ?_ | refine w7 ?_ | refine w8 rfl ?_ | refine w9 rfl ?_ | refine wa ?_ | refine wd ?_ | refine we ?_ | refine wb ?_ | refine wc ?_ | refine wf ?_ | refine wg ?_ | refine wh ?_ | refine wi rfl ?_ | refine wj ?_ | refine wk ?_ | refine wl ?_ | refine wm ?_ | refine wn ?_)
    exact rt1 rfl rfl (.sl _ _) (sub_free h1 rfl) hK
theorem clone_ents {xs : List (List AVal)} {o : Own} {H : AHeap} {K : AVal → AHeap → Prop} (hu : Uni 2 xs) (hf : flatA xs.flatten = true) (hl : xs.length * 24 ≤ 140737488355328) (hK : K (.sl xs .no) H) :
    ACalls Try.prog 89 [.sl xs o] H K := by
  refine acalls_body Try.func89 rfl rfl rfl ?_
  repeat (first | refine w1 rfl rfl ?_ | refine w2 rfl ?_ | refine w3 rfl rfl ?_ | refine w4 ?_ | refine w5 ?_ | refine w6 ?_ | refine w7 ?_ | refine w8 rfl ?_ | refine w9 rfl ?_ | refine wa ?_ | refine wd ?_ | refine we ?_ | refine wb ?_ | refine wc ?_ | refine wf ?_ | refine wg ?_ | refine wh ?_ | refine wi rfl ?_ | refine wj ?_ | refine wk ?_ | refine wl ?_ | refine wm ?_ | refine wn ?_)
  refine s_slnil tk rfl rfl rfl (fun b hb => ?_)
  repeat (first | refine w1 rfl rfl ?_ | refine w2 rfl ?_ | refine w3 rfl rfl ?_ | refine w4 ?_ | refine w5 ?_ | refine w6 ?_ | refine w7 ?_ | refine w8 rfl ?_ | refine w9 rfl ?_ | refine wa ?_ | refine wd ?_ | refine we ?_ | refine wb ?_ | refine wc ?_ | refine wf ?_ | refine wg ?_ | refine wh ?_ | refine wi rfl ?_ | refine wj ?_ | refine wk ?_ | refine wl ?_ | refine wm ?_ | refine wn ?_)
  refine aw_cond rfl (fun h => ?_) (fun h => ?_)
  · have := hb h
    subst this
    repeat (first | refine w1 rfl rfl ?_ | refine w2 rfl ?_ | refine w3 rfl rfl ?_ | refine w4 ?_ | refine w5 ?_ | refine w6 ?_ | refine w7 ?_ | refine w8 rfl ?_ | refine w9 rfl ?_ | refine wa ?_ | refine wd ?_ | refine we ?_ | refine wb ?_ | refine wc ?_ | refine wf ?_ | refine wg ?_ | refine wh ?_ | refine wi rfl ?_ | refine wj ?_ | refine wk ?_ | refine wl ?_ | refine wm ?_ | refine wn ?_)
    exact rt1 rfl rfl (.sl _ _) (AHeap.sub_refl _) hK
  · repeat (first | refine w1 rfl rfl ?_ | refine w2 rfl ?_ | refine w3 rfl rfl ?_ | refine w4 ?_ | refine w5 ?_ | refine w6 ?_ | refine w7 ?_ | refine w8 rfl ?_ | refine w9 rfl ?_ | refine wa ?_ | refine wd ?_ | refine we ?_ | refine wb ?_ | refine wc ?_ | refine wf ?_ | refine wg ?_ | refine wh ?_ | refine wi rfl ?_ | refine wj ?_ | refine wk ?_ | refine wl ?_ | refine wm ?_ | refine wn ?_)
    refine s_bslice tk rfl rfl rfl rfl rfl rfl (uni_nil _) (by decide) ?_
    repeat (first | refine w1 rfl rfl ?_ | refine w2 rfl ?_ | refine w3 rfl rfl ?_ | refine w4 ?_ | refine w5 ?_ | refine w6 ?_ | refine w7 ?_ | refine w8 rfl ?_ | refine w9 rfl ?_ | refine wa ?_ | refine wd ?_ | refine we ?_ | refine wb ?_ | refine wc ?_ | refine wf ?_ | refine wg ?_ | refine wh ?_ | refine wi rfl ?_ | refine wj ?_ | refine wk ?_ | refine wl ?_ | refine wm ?_ | refine wn ?_)
    refine s_append tk rfl rfl rfl rfl rfl (uni_nil _) hu hf trivial trivial (by simpa using hl) (fun o' h1 h2 => ?_)
    repeat (first | refine w1 rfl rfl ?_ | refine w2 rfl ?_ | refine w3 rfl rfl ?_ | refine w4 ?_ | refine w5 ?_ | refine w6 ?_ | refine w7 ?_ | refine w8 rfl ?_ | refine w9 rfl ?_ | refine wa ?_ | refine wd ?_ | refine we ?_ | refine wb ?_ | refine wc ?_ | refine wf ?_ | refine wg ?_ | refine wh ?_ | refine wi rfl ?_ | refine wj ?_ | refine wk ?_ | refine wl ?_ | refine wm ?_ | refine wn ?_)
    exact rt1 rfl rfl (.sl _ _) (sub_free h1 rfl) hK
end Abs
end Go.Proofs.Ytnjdkhfdjkjocaa
