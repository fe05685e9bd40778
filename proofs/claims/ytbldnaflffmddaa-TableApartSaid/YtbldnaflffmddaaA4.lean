import Derived.Test.YtbldnaflffmddaaA0
import Derived.Laws.BytesArg
import Derived.OrdersHeld
import Derived.Test.YtbldnaflffmddaaTy
set_option linter.unusedVariables false
namespace Go.Proofs.Ytbldnaflffmddaa
namespace Abs
open Go.RowKit

def kindNo : IntKind → Nat
  | .i8 => 0 | .i16 => 1 | .i32 => 2 | .i64 => 3 | .u8 => 4 | .u16 => 5 | .u32 => 6 | .u64 => 7
theorem kindNo_eq {j k : IntKind} (h : Nat.beq (kindNo j) (kindNo k) = true) : j = k := by
  cases j <;> cases k <;> first | rfl | (cases h)

/-- Comparisons. -/
def bev (tt : TT) (op : BinOp) (t : TypeId) (x y : AVal) : Option AVal :=
  match x, y with
  | .sc (.int j a), .sc (.int k b) => bif Nat.beq (kindNo j) (kindNo k) then
      (match op with
      | .eql => some (.sc (.bool (decide (a = b))))
      | .neq => some (.sc (.bool (!decide (a = b))))
      | .lss => some (.sc (.bool (decide (a < b))))
      | .leq => some (.sc (.bool (decide (a ≤ b))))
      | .gtr => some (.sc (.bool (decide (b < a))))
      | .geq => some (.sc (.bool (decide (b ≤ a))))
      | _ => none) else none
  | .sc (.string a), .sc (.string b) => match op with
      | .eql => some (.sc (.bool (decide (a = b))))
      | .neq => some (.sc (.bool (!decide (a = b))))
      | .lss => some (.sc (.bool (Op.bytesLess a.toList b.toList)))
      | .gtr => some (.sc (.bool (!(Op.bytesLess a.toList b.toList || decide (a = b)))))
      | .leq => some (.sc (.bool (Op.bytesLess a.toList b.toList || decide (a = b))))
      | .geq => some (.sc (.bool (!Op.bytesLess a.toList b.toList)))
      | _ => none
  | .sc (.bool a), .sc (.bool b) => match op, find tt.bools t with
      | .eql, some _ => some (.sc (.bool (a == b)))
      | .neq, some _ => some (.sc (.bool (!(a == b))))
      | _, _ => none
  | .ptr _ _, .sc (.pointer none) => match op, find tt.ptrs t with
      | .eql, some _ => some (.sc (.bool false))
      | .neq, some _ => some (.sc (.bool true))
      | _, _ => none
  | .sc (.pointer none), .sc (.pointer none) => match op, find tt.ptrs t with
      | .eql, some _ => some (.sc (.bool true))
      | .neq, some _ => some (.sc (.bool false))
      | _, _ => none
  | _, _ => none

theorem ba_toList_inj {a b : ByteArray} (h : a.toList = b.toList) : a = b := by
  have h1 : a.data.toList = b.data.toList := by rw [← ByteArray.toList_eq, ← ByteArray.toList_eq]; exact h
  cases a; cases b
  simpa using h1
theorem ba_beq (a b : ByteArray) : (a.toList == b.toList) = decide (a = b) := by
  by_cases h : a = b
  · subst h; simp
  · have : ¬ a.toList = b.toList := fun e => h (ba_toList_inj e)
    simp [h, this]

theorem eql_bool {P : Program} {t : TypeId} (hu : P.underlying t = some .bool) (a b : Bool) (w : World) (ox oy : Operand) : ((do eqGuard .eql t ox oy (.bool a) (.bool b); binOp .eql t (.bool a) (.bool b) : Sem Value)).run P w = .ok (.bool (a == b)) w := by
  have h : ∀ d, (Op.equalIn (d + 1) t (.bool a) (.bool b)).run P w = .ok (a == b) w := fun d => by simp [Op.equalIn, run_underlying hu]
  show (do pure PUnit.unit; pure (.bool (← Op.equal t (.bool a) (.bool b))) : Sem Value).run P w = _
  have h2 : (Op.equal t (.bool a) (.bool b)).run P w = .ok (a == b) w := h 9999
  simp [h2]
theorem neq_bool {P : Program} {t : TypeId} (hu : P.underlying t = some .bool) (a b : Bool) (w : World) (ox oy : Operand) : ((do eqGuard .neq t ox oy (.bool a) (.bool b); binOp .neq t (.bool a) (.bool b) : Sem Value)).run P w = .ok (.bool (!(a == b))) w := by
  have h : ∀ d, (Op.equalIn (d + 1) t (.bool a) (.bool b)).run P w = .ok (a == b) w := fun d => by simp [Op.equalIn, run_underlying hu]
  show (do pure PUnit.unit; pure (.bool (!(← Op.equal t (.bool a) (.bool b)))) : Sem Value).run P w = _
  have h2 : (Op.equal t (.bool a) (.bool b)).run P w = .ok (a == b) w := h 9999
  simp [h2]
theorem equal_ptr {P : Program} {t e : TypeId} (hu : P.underlying t = some (.pointer e)) (a : Option Addr) (w : World) : (Op.equal t (.pointer a) (.pointer none)).run P w = .ok a.isNone w := by
  have h : ∀ d, (Op.equalIn (d + 1) t (.pointer a) (.pointer none)).run P w = .ok a.isNone w := fun d => by cases a <;> simp [Op.equalIn, run_underlying hu] <;> rfl
  exact h 9999
theorem eql_ptr {P : Program} {t e : TypeId} (hu : P.underlying t = some (.pointer e)) (a : Option Addr) (w : World) (ox oy : Operand) : ((do eqGuard .eql t ox oy (.pointer a) (.pointer none); binOp .eql t (.pointer a) (.pointer none) : Sem Value)).run P w = .ok (.bool a.isNone) w := by
  show (do pure PUnit.unit; pure (.bool (← Op.equal t (.pointer a) (.pointer none))) : Sem Value).run P w = _
  simp [equal_ptr hu]
theorem neq_ptr {P : Program} {t e : TypeId} (hu : P.underlying t = some (.pointer e)) (a : Option Addr) (w : World) (ox oy : Operand) : ((do eqGuard .neq t ox oy (.pointer a) (.pointer none); binOp .neq t (.pointer a) (.pointer none) : Sem Value)).run P w = .ok (.bool (!a.isNone)) w := by
  show (do pure PUnit.unit; pure (.bool (!(← Op.equal t (.pointer a) (.pointer none)))) : Sem Value).run P w = _
  simp [equal_ptr hu]

theorem bev_ok {P : Program} {tt : TT} (tk : TTok tt P) {op : BinOp} {t : TypeId} {x y v : AVal} (h : bev tt op t x y = some v) {g : Ghost} {w : World} {cx cy : Value} (hx : VR g w x cx) (hy : VR g w y cy) :
    ∃ cv, (∀ (ox oy : Operand) w', (do eqGuard op t ox oy cx cy; binOp op t cx cy : Sem Value).run P w' = .ok cv w') ∧ VR g w v cv := by
  unfold bev at h
  split at h
  · rename_i j a k b
    have := hx.eq_sc; subst this
    have := hy.eq_sc; subst this
    cases hk : Nat.beq (kindNo j) (kindNo k) with
    | false => rw [hk] at h; cases h
    | true =>
      rw [hk] at h
      have := kindNo_eq hk
      subst this
      cases op <;> simp only [cond_true, Option.some.injEq] at h <;> first | (cases h; done) | skip
      all_goals subst h
      · exact ⟨.bool (a == b), fun ox oy w' => by simp [eqGuard, binOp, Op.intCmp], .sc trivial⟩
      · exact ⟨.bool (a != b), fun ox oy w' => by simp [eqGuard, binOp, Op.intCmp], .sc trivial⟩
      all_goals exact ⟨_, fun ox oy w' => by simp [eqGuard, binOp, Op.intCmp], .sc trivial⟩
  · rename_i a b
    have := hx.eq_sc; subst this
    have := hy.eq_sc; subst this
    cases op <;> simp only [Option.some.injEq] at h <;> first | (cases h; done) | skip
    all_goals subst h
    all_goals exact ⟨_, fun ox oy w' => by simp [eqGuard, binOp, Op.stringOp, ba_beq], .sc trivial⟩
  · rename_i a b
    have := hx.eq_sc; subst this
    have := hy.eq_sc; subst this
    split at h
    · rename_i u hf
      cases h
      exact ⟨_, fun ox oy w' => eql_bool (tk.bools hf) a b w' ox oy, .sc trivial⟩
    · rename_i u hf
      cases h
      exact ⟨_, fun ox oy w' => neq_bool (tk.bools hf) a b w' ox oy, .sc trivial⟩
    · cases h
  · have := hx.eq_ptr; subst this
    have := hy.eq_sc; subst this
    split at h
    · rename_i u hf
      cases h
      obtain ⟨e, hu⟩ := tk.ptrs hf
      exact ⟨_, fun ox oy w' => eql_ptr hu _ w' ox oy, .sc trivial⟩
    · rename_i u hf
      cases h
      obtain ⟨e, hu⟩ := tk.ptrs hf
      exact ⟨_, fun ox oy w' => neq_ptr hu _ w' ox oy, .sc trivial⟩
    · cases h
  · have := hx.eq_sc; subst this
    have := hy.eq_sc; subst this
    split at h
    · rename_i u hf
      cases h
      obtain ⟨e, hu⟩ := tk.ptrs hf
      exact ⟨_, fun ox oy w' => eql_ptr hu _ w' ox oy, .sc trivial⟩
    · rename_i u hf
      cases h
      obtain ⟨e, hu⟩ := tk.ptrs hf
      exact ⟨_, fun ox oy w' => neq_ptr hu _ w' ox oy, .sc trivial⟩
    · cases h
  · cases h

def lenA (tt : TT) (t : TypeId) : AVal → Option AVal
  | .sl xs _ => match find tt.slc t with | some _ => some (.sc (.int .i64 xs.length)) | none => none
  | .row _ _ n _ => match find tt.slc t with | some _ => some (.sc (.int .i64 n)) | none => none
  | .sc (.string s) => match find tt.strs t with | some _ => some (.sc (.int .i64 s.size)) | none => none
  | _ => none

/-- What an operation comes to that touches no memory. -/
def pev (tt : TT) (F : Fr) : Op → Option AVal
  | .move x => opd F x
  | .assign x => opd F x
  | .pick c a b => match opd F c with
    | some (.sc (.bool true)) => opd F a
    | some (.sc (.bool false)) => opd F b
    | _ => none
  | .nilCheck x => match opd F x with
    | some (.ptr b o) => some (.ptr b o)
    | some (.ept c o) => some (.ept c o)
    | some (.clo f a b) => some (.clo f a b)
    | _ => none
  | .unOp .not _ x => match opd F x with
    | some (.sc (.bool b)) => some (.sc (.bool (!b)))
    | _ => none
  | .binOp op t x y _ => match opd F x, opd F y with
    | some a, some b => bev tt op t a b
    | _, _ => none
  | .fieldAddr s x f => match opd F x, find tt.flds s with
    | some (.ptr b o), some fs => match fs[f]? with | some (_, k) => some (.ptr b (o + k)) | none => none
    | some (.ept c o), some fs => match fs[f]? with | some (_, k) => some (.ept c (o + k)) | none => none
    | _, _ => none
  | .extract t i => match opd F t with
    | some (.tup xs) => xs[i]?
    | _ => none
  | .makeFunc (.func f) a b => match opds F a.toList, opds F b.toList with
    | some xs, some ys => some (.clo f xs ys)
    | _, _ => none
  | .call { callee := .builtin .len, args := xs, argTypes := ts } => match xs.toList, ts.toList with
    | [x], [t] => match opd F x with | some v => lenA tt t v | none => none
    | _, _ => none
  | .call { callee := .builtin .min, args := xs, .. } => match xs.toList with
    | [x, y] => match opd F x, opd F y with
      | some (.sc (.int j a)), some (.sc (.int k b)) => some (.sc (.int j (if b < a then b else a)))
      | _, _ => none
    | _ => none
  | .call { callee := .builtin .max, args := xs, .. } => match xs.toList with
    | [x, y] => match opd F x, opd F y with
      | some (.sc (.int j a)), some (.sc (.int k b)) => some (.sc (.int j (if b > a then b else a)))
      | _, _ => none
    | _ => none
  | _ => none

theorem VR.eq_tup {g : Ghost} {w : World} {xs : List AVal} {cv : Value} (h : VR g w (.tup xs) cv) : ∃ cs : Array Value, cv = .tuple cs ∧ VRs g w xs cs.toList := by
  cases h with | tup h1 h2 => exact ⟨_, rfl, .of_arr h1 h2⟩

section
variable {P : Program} {tt : TT} {n : Nat} {ops : Array Oper} {F : Fr} {H : AHeap} {dst : Option Tmp} {ty : TypeId} {pos : String} {af : Array Edge} {K : APost}

theorem pev_ok (tk : TTok tt P) {op : Op} {v : AVal} (h : pev tt F op = some v) : Pures P n ⟨dst, op, ty, pos, af, none⟩ F v := fun g a w hf => by
  unfold pev at h
  split at h
  · exact ⟨_, fun w' => by simp [execOp], hf.opd h⟩
  · exact ⟨_, fun w' => by simp [execOp], hf.opd h⟩
  · rename_i c x y
    split at h
    · rename_i hc
      have := (hf.opd hc).eq_sc
      exact ⟨_, fun w' => by simp [execOp, this, asBool], hf.opd h⟩
    · rename_i hc
      have := (hf.opd hc).eq_sc
      exact ⟨_, fun w' => by simp [execOp, this, asBool], hf.opd h⟩
    · cases h
  · rename_i x
    split at h
    · rename_i b o hc
      cases h
      have := (hf.opd hc).eq_ptr
      exact ⟨_, fun w' => by simp [execOp, this], .ptr⟩
    · rename_i c o hc
      cases h
      have hv := hf.opd hc
      generalize hcv : a.eval x = cv at hv
      refine ⟨cv, fun w' => ?_, hv⟩
      cases hv
      simp [execOp, hcv]
    · rename_i f p q hc
      cases h
      have hv := hf.opd hc
      generalize hcv : a.eval x = cv at hv
      refine ⟨cv, fun w' => ?_, hv⟩
      cases hv
      simp [execOp, hcv]
    · cases h
  · rename_i x
    split at h
    · rename_i b hc
      cases h
      have := (hf.opd hc).eq_sc
      exact ⟨_, fun w' => by simp [execOp, this, Op.unary], .sc trivial⟩
    · cases h
  · rename_i op t x y yt
    split at h
    · rename_i u u' hx hy
      obtain ⟨cv, h1, h2⟩ := bev_ok tk h (hf.opd hx) (hf.opd hy)
      refine ⟨cv, fun w' => ?_, h2⟩
      have := h1 x y w'
      simp only [execOp]
      rw [Sem.run_bind, this]
      rfl
    · cases h
  · rename_i s x f
    split at h
    · rename_i b o fs hx hs
      have := (hf.opd hx).eq_ptr
      obtain ⟨fds, h1, h2, h3⟩ := tk.flds hs
      subst h2
      split at h
      · rename_i t k hk
        cases h
        simp only [List.getElem?_map, Option.map_eq_some_iff] at hk
        obtain ⟨fd, hfd, he⟩ := hk
        cases he
        obtain ⟨i, hi, hne⟩ := h3 fd (List.mem_of_getElem? hfd)
        have hfd' : fds[f]? = some fd := by simpa using hfd
        refine ⟨_, fun w' => ?_, .ptr⟩
        simp [execOp, Instr.fieldAt, run_underlying h1, hfd', Instr.sureAddr, this, fieldPlace, run_sizeOf' hi, hne, add_plain]
      · cases h
    · rename_i c o fs hx hs
      have hv := hf.opd hx
      generalize hcv : a.eval x = cv at hv
      obtain ⟨fds, h1, h2, h3⟩ := tk.flds hs
      subst h2
      split at h
      · rename_i t k hk
        cases h
        simp only [List.getElem?_map, Option.map_eq_some_iff] at hk
        obtain ⟨fd, hfd, he⟩ := hk
        cases he
        obtain ⟨i, hi, hne⟩ := h3 fd (List.mem_of_getElem? hfd)
        have hfd' : fds[f]? = some fd := by simpa using hfd
        cases hv with
        | @ept _ _ b o' cv g1 g2 g3 =>
          refine ⟨.pointer (some ⟨b, o' + (o + fd.offset), none⟩), fun w' => ?_, .ept cv g1 g2 g3⟩
          simp [execOp, Instr.fieldAt, run_underlying h1, hfd', Instr.sureAddr, hcv, fieldPlace, run_sizeOf' hi, hne, add_plain, Nat.add_assoc]
      · cases h
    · cases h
  · rename_i t i
    split at h
    · rename_i xs hx
      obtain ⟨cs, h1, h2⟩ := (hf.opd hx).eq_tup
      obtain ⟨cv, h3, h4⟩ := h2.get h
      exact ⟨cv, fun w' => by simp at h3; simp [execOp, h1, Instr.extract, h3], h4⟩
    · cases h
  · rename_i f p q
    split at h
    · rename_i xs ys hx hy
      cases h
      obtain ⟨l1, v1⟩ := hf.opds hx
      obtain ⟨l2, v2⟩ := hf.opds hy
      refine ⟨.func (.func f) (p.map a.eval) (q.map a.eval), fun w' => by simp [execOp, Instr.makeFunc], .clo (by simpa using l1) (by simpa using l2) (fun j x y => ?_) (fun j x y => ?_)⟩
      · have := v1 j x (by simpa using y); simpa using this
      · have := v2 j x (by simpa using y); simpa using this
    · cases h
  · rename_i xs ts
    split at h
    · rename_i x t hxs hts
      have hxs' : xs = #[x] := by cases xs; simp at hxs; simp [hxs]
      have hts' : ts = #[t] := by cases ts; simp at hts; simp [hts]
      subst hxs' hts'
      split at h
      · rename_i u hx
        have hv := hf.opd hx
        generalize hcv : a.eval x = cv at hv
        unfold lenA at h
        split at h
        · rename_i ys o
          split at h
          · rename_i p hp
            cases h
            obtain ⟨hu, _⟩ := tk.slc (e := p.1) (es := p.2.1) (eb := p.2.2) hp
            cases hv <;> exact ⟨_, fun w' => by simp [execOp, resolve, invoke, builtin, Builtin.len_, hcv, run_underlying hu, goInt], .sc trivial⟩
          · cases h
        · split at h
          · rename_i p hp
            cases h
            obtain ⟨hu, _⟩ := tk.slc (e := p.1) (es := p.2.1) (eb := p.2.2) hp
            cases hv
            exact ⟨_, fun w' => by simp [execOp, resolve, invoke, builtin, Builtin.len_, hcv, run_underlying hu, goInt], .sc trivial⟩
          · cases h
        · split at h
          · rename_i p hp
            cases h
            have hu := tk.strs hp
            have := hv.eq_sc
            subst this
            exact ⟨_, fun w' => by simp [execOp, resolve, invoke, builtin, Builtin.len_, hcv, run_underlying hu, goInt], .sc trivial⟩
          · cases h
        · cases h
      · cases h
    · cases h
  · rename_i xs ts
    split at h
    · rename_i x y hxs
      have hxs' : xs = #[x, y] := by cases xs; simp at hxs; simp [hxs]
      subst hxs'
      split at h
      · rename_i j p k q hx hy
        cases h
        have e1 := (hf.opd hx).eq_sc
        have e2 := (hf.opd hy).eq_sc
        exact ⟨_, fun w' => by simp [execOp, resolve, invoke, builtin, Builtin.min_, Builtin.min2, e1, e2], .sc trivial⟩
      · cases h
    · cases h
  · rename_i xs ts
    split at h
    · rename_i x y hxs
      have hxs' : xs = #[x, y] := by cases xs; simp at hxs; simp [hxs]
      subst hxs'
      split at h
      · rename_i j p k q hx hy
        cases h
        have e1 := (hf.opd hx).eq_sc
        have e2 := (hf.opd hy).eq_sc
        exact ⟨_, fun w' => by simp [execOp, resolve, invoke, builtin, Builtin.max_, Builtin.max2, e1, e2], .sc trivial⟩
      · cases h
    · cases h
  · cases h

theorem op_pure (tk : TTok tt P) {op : Op} {v : AVal} (hd : dstOk n dst = true) (h : pev tt F op = some v) (hK : K (F.put dst v) H) : AOp P n ops ⟨dst, op, ty, pos, af, none⟩ F H K :=
  op_of_reads hd (pev_ok tk h).reads hK

/-! ### arithmetic -/
theorem pures_arith {op : BinOp} {t yt : TypeId} {x y : Operand} {k : IntKind} {p q r : Int} (hx : opd F x = some (.sc (.int k p))) (hy : opd F y = some (.sc (.int k q)))
    (hr : (match op with | .add => some (k.wrap (p + q)) | .sub => some (k.wrap (p - q)) | .mul => some (k.wrap (p * q)) | _ => none) = some r) :
    Pures P n ⟨dst, .binOp op t x y yt, ty, pos, af, none⟩ F (.sc (.int k r)) := fun g a w hf => by
  have e1 := (hf.opd hx).eq_sc
  have e2 := (hf.opd hy).eq_sc
  refine ⟨_, fun w' => ?_, .sc trivial⟩
  cases op <;> simp only [Option.some.injEq] at hr <;> first | (cases hr; done) | skip
  all_goals subst hr
  all_goals simp [execOp, e1, e2, eqGuard, binOp, Op.intArith]
theorem pures_conv (tk : TTok tt P) {src d : TypeId} {x : Operand} {j k : IntKind} {p r : Int} {u : Unit} (hx : opd F x = some (.sc (.int j p))) (hs : find tt.ints src = some j) (hd : find tt.ints d = some k) (hr : k.wrap p = r) :
    Pures P n ⟨dst, .convert src d x, ty, pos, af, none⟩ F (.sc (.int k r)) := fun g a w hf => by
  have e1 := (hf.opd hx).eq_sc
  subst hr
  exact ⟨_, fun w' => by simp [execOp, convert, e1, run_underlying (tk.ints hs), run_underlying (tk.ints hd), Conv.intToInt], .sc trivial⟩
theorem pures_pick {c x y : Operand} {b p q : Bool} (hc : opd F c = some (.sc (.bool b))) (hx : opd F x = some (.sc (.bool p))) (hy : opd F y = some (.sc (.bool q))) :
    Pures P n ⟨dst, .pick c x y, ty, pos, af, none⟩ F (.sc (.bool (bif b then p else q))) := fun g a w hf => by
  have e1 := (hf.opd hc).eq_sc
  have e2 := (hf.opd hx).eq_sc
  have e3 := (hf.opd hy).eq_sc
  exact ⟨_, fun w' => by cases b <;> simp [execOp, e1, e2, e3, asBool] <;> rfl, .sc trivial⟩
theorem op_of_pures {op : Op} {v : AVal} (h : Pures P n ⟨dst, op, ty, pos, af, none⟩ F v) (hd : dstOk n dst = true) (hK : K (F.put dst v) H) : AOp P n ops ⟨dst, op, ty, pos, af, none⟩ F H K :=
  op_of_reads hd h.reads hK
end
end Abs
end Go.Proofs.Ytbldnaflffmddaa

set_option linter.unusedVariables false
namespace Go.Proofs.Ytbldnaflffmddaa
namespace Abs
open Go.RowKit

/-! ### rows of rows -/
def Uni (es : Nat) (xs : List (List AVal)) : Prop := ∀ x, x ∈ xs → x.length = es
theorem Uni.get {es : Nat} {xs : List (List AVal)} (h : Uni es xs) (i : Nat) (hi : i < xs.length) : xs[i].length = es := h _ (List.getElem_mem hi)
theorem Uni.len {es : Nat} : ∀ {xs : List (List AVal)}, Uni es xs → xs.flatten.length = xs.length * es
  | [], _ => by simp
  | x :: xs, h => by
    have h1 := h x List.mem_cons_self
    have h2 := Uni.len (xs := xs) (fun y hy => h y (List.mem_cons_of_mem _ hy))
    simp only [List.flatten_cons, List.length_append, h1, h2, List.length_cons, Nat.succ_mul]
    omega
theorem Uni.flat_get {es : Nat} : ∀ {xs : List (List AVal)}, Uni es xs → ∀ (i j : Nat), j < es → xs.flatten[i * es + j]? = (xs[i]?).bind (·[j]?)
  | [], _, i, j, hj => by simp
  | x :: xs, h, i, j, hj => by
    have h1 := h x List.mem_cons_self
    have ih := Uni.flat_get (xs := xs) (fun y hy => h y (List.mem_cons_of_mem _ hy))
    cases i with
    | zero => simp only [List.flatten_cons, Nat.zero_mul, Nat.zero_add, List.getElem?_cons_zero, Option.bind_some]; rw [List.getElem?_append_left (by omega)]
    | succ i =>
      rw [List.flatten_cons, List.getElem?_append_right (by rw [Nat.succ_mul]; omega), h1, show (i + 1) * es + j - es = i * es + j by rw [Nat.succ_mul]; omega, ih i j hj]
      simp
theorem Uni.append {es : Nat} {xs ys : List (List AVal)} (h : Uni es xs) (k : Uni es ys) : Uni es (xs ++ ys) := fun x hx => (List.mem_append.1 hx).elim (h x) (k x)
theorem Uni.take {es : Nat} {xs : List (List AVal)} (h : Uni es xs) (m : Nat) : Uni es (xs.take m) := fun x hx => h x (List.mem_of_mem_take hx)
theorem Uni.drop {es : Nat} {xs : List (List AVal)} (h : Uni es xs) (m : Nat) : Uni es (xs.drop m) := fun x hx => h x (List.mem_of_mem_drop hx)

theorem divmod_lt {k n es : Nat} (he : 0 < es) (h : k < n * es) : k / es < n ∧ k % es < es ∧ k / es * es + k % es = k :=
  ⟨Nat.div_lt_of_lt_mul (by rw [Nat.mul_comm]; exact h), Nat.mod_lt _ he, by rw [Nat.mul_comm]; exact Nat.div_add_mod k es⟩

/-- What can be read of a slice that nobody writes: its cells. -/
theorem VR.sl_cells {g : Ghost} {w : World} {xs : List (List AVal)} {own : Own} {cv : Value} (h : VR g w (.sl xs own) cv) {es : Nat} (he : 0 < es) (hu : Uni es xs) :
    ∃ a cap, cv = .slice a xs.length cap ∧ xs.length ≤ cap ∧ xs.length ≤ maxLen ∧ ∃ cs : List Value, VRs g w xs.flatten cs ∧ cs.length = xs.length * es ∧
      ((xs = [] ∧ cs = [] ∧ cap = 0 ∧ ∀ b e s, own ≠ .tok b e s) ∨ ∃ b o, a = some ⟨b, o, none⟩ ∧ (∀ j v, cs[j]? = some v → w.cell? ⟨b, o + j, none⟩ = some v) ∧ g.imm b (o + xs.length * es) ∧
        (∀ b' e s, own = .tok b' e s → s = es → b' = b ∧ e = o + xs.length * es ∧ g.base ≤ b ∧ hasRow w b (o + cap * es)) ∧ (own = .full → cap = xs.length)) := by
  cases h with
  | nil => exact ⟨none, 0, rfl, Nat.le_refl _, Nat.zero_le _, [], .nil, by simp, .inl ⟨rfl, rfl, rfl, by simp⟩⟩
  | nil' => exact ⟨none, 0, rfl, Nat.le_refl _, Nat.zero_le _, [], .nil, by simp, .inl ⟨rfl, rfl, rfl, by simp⟩⟩
  | zero => exact ⟨some _, 0, rfl, Nat.le_refl _, Nat.zero_le _, [], .nil, by simp, .inl ⟨rfl, rfl, rfl, by simp⟩⟩
  | zero' => exact ⟨some _, 0, rfl, Nat.le_refl _, Nat.zero_le _, [], .nil, by simp, .inl ⟨rfl, rfl, rfl, by simp⟩⟩
  | @sl _ _ b o es' cap cv h1 h2 h3 h4 h5 h6 h7 h8 =>
    have htok : ∀ b' e s, own = .tok b' e s → s = es → b' = b ∧ e = o + xs.length * es ∧ g.base ≤ b ∧ hasRow w b (o + cap * es) := fun b' e s ho hs => by
      subst ho
      obtain ⟨k1, k2, k3, k4⟩ := h6
      subst k3
      subst hs
      exact ⟨k1, k2, k4, h5⟩
    have hfull : own = .full → cap = xs.length := fun ho => by subst ho; exact h6
    by_cases hx : xs = []
    · subst hx
      exact ⟨_, cap, rfl, h3, h4, [], .nil, by simp, .inr ⟨b, o, rfl, fun j v hv => by simp at hv, by simpa using h2, htok, hfull⟩⟩
    · have hpos : 0 < xs.length := List.length_pos_iff.2 hx
      have hes : es' = es := by rw [← h1 0 hpos]; exact hu.get 0 hpos
      subst hes
      have hlen := hu.len
      refine ⟨_, cap, rfl, h3, h4, (List.range (xs.length * es')).map fun k => cv (k / es') (k % es'), ⟨by simp [hlen], fun k hk hk' => ?_⟩, by simp, .inr ⟨b, o, rfl, fun j v hv => ?_, h2, htok, hfull⟩⟩
      · rw [hlen] at hk
        obtain ⟨d1, d2, d3⟩ := divmod_lt he hk
        have hg := hu.flat_get (k / es') (k % es') d2
        rw [d3, List.getElem?_eq_getElem (by rw [hlen]; exact hk), List.getElem?_eq_getElem d1] at hg
        simp only [Option.bind_some] at hg
        have hj : k % es' < (xs[k / es']).length := by rw [hu.get _ d1]; exact d2
        rw [List.getElem?_eq_getElem hj] at hg
        injection hg with hg
        rw [hg]
        have := h8 (k / es') d1 (k % es') hj
        simpa using this
      · obtain ⟨hj, rfl⟩ := List.getElem?_eq_some_iff.1 hv
        simp at hj
        obtain ⟨d1, d2, d3⟩ := divmod_lt he hj
        have := h7 (j / es') d1 (j % es') (by rw [hu.get _ d1]; exact d2)
        rw [show o + j / es' * es' + j % es' = o + j by omega] at this
        simpa using this

/-- A slice out of cells. -/
theorem VR.sl_mk {g : Ghost} {w : World} {xs : List (List AVal)} {own : Own} {es b o cap : Nat} (he : 0 < es) (hu : Uni es xs) {cs : List Value} (hv : VRs g w xs.flatten cs) (hc : ∀ j v, cs[j]? = some v → w.cell? ⟨b, o + j, none⟩ = some v)
    (hi : g.imm b (o + xs.length * es)) (hcap : xs.length ≤ cap) (hm : xs.length ≤ maxLen) (hr : hasRow w b (o + cap * es)) (ho : ownOk g w own b (o + xs.length * es) xs.length cap es) : VR g w (.sl xs own) (.slice (some ⟨b, o, none⟩) xs.length cap) := by
  have hlen := hu.len
  have hl := hv.1
  have key : ∀ i (h : i < xs.length) j (h' : j < xs[i].length), ∃ hk : i * es + j < cs.length, ∃ hk' : i * es + j < xs.flatten.length, xs.flatten[i * es + j] = xs[i][j] := fun i h j h' => by
    have hj : j < es := by rw [← hu.get i h]; exact h'
    have h1 : (i + 1) * es ≤ xs.length * es := Nat.mul_le_mul_right _ h
    have h2 : (i + 1) * es = i * es + es := Nat.succ_mul i es
    have hk' : i * es + j < xs.flatten.length := by omega
    refine ⟨by omega, hk', ?_⟩
    have hg := hu.flat_get i j hj
    rw [List.getElem?_eq_getElem hk', List.getElem?_eq_getElem h] at hg
    simp only [Option.bind_some] at hg
    rw [List.getElem?_eq_getElem h'] at hg
    injection hg
  refine .sl (fun i j => cs.getD (i * es + j) Go.undef) (fun i h => hu.get i h) hi hcap hm hr ho (fun i h j h' => ?_) (fun i h j h' => ?_)
  · obtain ⟨hk, _, _⟩ := key i h j h'
    have := hc (i * es + j) _ (List.getElem?_eq_getElem hk)
    rw [show o + (i * es + j) = o + i * es + j by omega] at this
    simp [this, List.getElem?_eq_getElem hk]
  · obtain ⟨hk, hk', he'⟩ := key i h j h'
    have := hv.2 _ hk' hk
    rw [he'] at this
    simpa [List.getElem?_eq_getElem hk] using this

def AHeap.free (H : AHeap) : Own → AHeap
  | .tok b _ _ => H.del b
  | _ => H
def AHeap.own (H : AHeap) : Own → AHeap
  | .tok b e _ => H.put b (.grow e)
  | _ => H
def Owned (H : AHeap) : Own → Prop
  | .no => False
  | .full => True
  | .tok b e _ => H b = some (.grow e)
/-- None of what is known is the token's block. -/
def Apart (H : AHeap) : Own → Prop
  | .no => False
  | .full => True
  | .tok b _ _ => H b = none

theorem ext_drew (g : Ghost) (w : World) : Ext g w g w.drew := ⟨rfl, rfl, rfl, rfl, Nat.le_refl _, fun _ _ => rfl, fun _ => Nat.le_refl _, fun _ _ _ => rfl, fun _ _ => rfl, rfl, fun _ _ => rfl⟩
theorem ObjOk.drew {g : Ghost} {w : World} {b : Nat} {o : HObj} (h : ObjOk g w b o) : ObjOk g w.drew b o := by
  cases o with
  | cells cs => obtain ⟨h1, c, el, h2, h3, h4⟩ := h; exact ⟨h1, c, el, h2, h3, fun j a b => (h4 j a b).mono (ext_drew g w)⟩
  | ro cs => obtain ⟨h1, c, el, h2, h3, h4⟩ := h; exact ⟨h1, c, el, h2, h3, fun j a b => (h4 j a b).mono (ext_drew g w)⟩
  | grow e => exact h
  | amap es => obtain ⟨h1, c, el, h2, h3, h4⟩ := h; exact ⟨h1, c, el, h2, h3, fun j a b => ⟨(h4 j a b).1, (h4 j a b).2.mono (ext_drew g w)⟩⟩
  | iter s pos => exact h
theorem Inv.drew {g : Ghost} {w : World} {H : AHeap} (h : Inv g w H) : Inv g w.drew H := ⟨h.base_le, h.fresh, fun b o hb => ⟨(h.obj b o hb).1, (h.obj b o hb).2.drew⟩⟩

/-- What is known of a row that is written behind its end. -/
theorem inv_grow {g : Ghost} {w : World} {H : AHeap} (hi : Inv g w H) {b e e' : Nat} (hb : H b = some (.grow e)) {c c' : Array Value} {el : TypeId} (hw : w.heap[b]? = some (.cells c el (0, 0))) (hs : c'.size = c.size) (hle : e ≤ e')
    (hc : ∀ o, o < e → c'[o]? = c[o]?) : Ext g w (g.fix b e') (w.setRow b c') ∧ Inv (g.fix b e') (w.setRow b c') ((H.del b).put b (.grow e')) := by
  obtain ⟨hbase, hok⟩ := hi.obj b _ hb
  have hlim : g.lim b = e := hok.1.1
  have he : Ext g w g (w.setRow b c') := ext_setRow hw hs hbase (fun o ho => hc o (by omega)) hok.1.2
  have he2 : Ext g (w.setRow b c') (g.fix b e') (w.setRow b c') := ext_seal (by omega)
  have hd : Inv g w (H.del b) := hi.sub (AHeap.del_sub (AHeap.sub_refl _) b)
  have hi1 : Inv g (w.setRow b c') (H.del b) := ⟨by simpa using hi.base_le, fun k hk => hi.fresh k (by simpa using hk), fun k o hk => by
    have hne : k ≠ b := fun e => by rw [e] at hk; simp [AHeap.del] at hk
    exact ⟨(hd.obj k o hk).1, (hd.obj k o hk).2.other he hne⟩⟩
  have hlt : b < w.heap.size := (Array.getElem?_eq_some_iff.1 hw).1
  have hi2 := inv_seal (e := e') hi1 (show g.lim b ≤ e' by omega) (by simpa using hlt) (by simp [AHeap.del])
  refine ⟨he.trans he2, hi2.base_le, hi2.fresh, fun k o hk => ?_⟩
  by_cases ek : k = b
  · subst ek
    rw [put_same] at hk
    cases hk
    exact ⟨hbase, ⟨by simp [Ghost.fix], hok.1.2⟩, c', el, setRow_heap w k c c' el (0, 0) hw⟩
  · rw [put_ne ek] at hk
    exact hi2.obj k o hk
/-- A new row. -/
theorem inv_new {g : Ghost} {w : World} {H : AHeap} (hi : Inv g w H) (e : Nat) (c : Array Value) (el : TypeId) :
    Ext g w (g.fix w.heap.size e) (w.alloc (.cells c el)) ∧ Inv (g.fix w.heap.size e) (w.alloc (.cells c el)) (H.put w.heap.size (.grow e)) := by
  have hf := hi.fresh _ (Nat.le_refl w.heap.size)
  have he := ext_alloc hi.base_le hf.1 hf.2 (Obj.cells c el)
  have he2 : Ext g (w.alloc (.cells c el)) (g.fix w.heap.size e) (w.alloc (.cells c el)) := ext_seal (by omega)
  have hi1 : Inv g (w.alloc (.cells c el)) H := ⟨by have := hi.base_le; simp; omega, fun k hk => hi.fresh k (by simp at hk; omega), fun k o hk => ⟨(hi.obj k o hk).1, (hi.obj k o hk).2.alloc he⟩⟩
  have hi2 := inv_seal (e := e) hi1 (show g.lim w.heap.size ≤ e by omega) (by simp) hi.size_fresh
  refine ⟨he.trans he2, hi2.base_le, hi2.fresh, fun k o hk => ?_⟩
  by_cases ek : k = w.heap.size
  · subst ek
    rw [put_same] at hk
    cases hk
    exact ⟨hi.base_le, ⟨by simp [Ghost.fix], hf.2⟩, c, el, heap_alloc_new w _⟩
  · rw [put_ne ek] at hk
    exact hi2.obj k o hk
theorem imm_seal (g : Ghost) (b e : Nat) : (g.fix b e).imm b e := .inr (by simp [Ghost.fix])

theorem Inv.free {g : Ghost} {w : World} {H : AHeap} (h : Inv g w H) {o : Own} : Inv g w (H.free o) := by
  cases o with
  | no => exact h
  | full => exact h
  | tok b e s => exact h.sub (AHeap.del_sub (AHeap.sub_refl _) b)
theorem growBy_le' (m : Nat) : ∀ (r c : Nat), c ≤ m → 256 ≤ c → Builtin.growBy m r c ≤ 2 * m
  | 0, c, h, _ => by show c ≤ _; omega
  | r + 1, c, h, hc => by
    unfold Builtin.growBy
    split
    · omega
    · rename_i hlt
      by_cases h2 : c + (c + 768) / 4 ≤ m
      · exact growBy_le' m r _ h2 (by omega)
      · have : Builtin.growBy m r (c + (c + 768) / 4) = c + (c + 768) / 4 := by
          cases r with
          | zero => rfl
          | succ r => unfold Builtin.growBy; rw [if_pos (by omega)]
        rw [this]
        omega
theorem nextslicecap_le (m c : Nat) (h : c < m) : Builtin.nextslicecap m c ≤ 2 * m := by
  unfold Builtin.nextslicecap
  split
  · omega
  · split
    · omega
    · exact growBy_le' m 4 c (by omega) (by omega)

section
variable {P : Program} {tt : TT} {n : Nat} {ops : Array Oper} {F : Fr} {H : AHeap} {dst : Option Tmp} {ty : TypeId} {pos : String} {af : Array Edge} {K : APost}

theorem run_firstCells {w : World} {es m : Nat} {a : Option Addr} {k cap : Nat} {cs : List Value} (hl : cs.length = m * es) (ha : cs = [] ∨ ∃ b o, a = some ⟨b, o, none⟩ ∧ ∀ j v, cs[j]? = some v → w.cell? ⟨b, o + j, none⟩ = some v) :
    (Builtin.firstCells es m (.slice a k cap)).run P w = .ok cs.toArray w := by
  rcases ha with rfl | ⟨b, o, rfl, hc⟩
  · cases a with
    | none => simp [Builtin.firstCells]
    | some a =>
      have h0 : m * es = 0 := by simpa using hl.symm
      have := run_loadCells_list (P := P) w a [] (fun j v hv => by simp at hv)
      simpa [Builtin.firstCells, h0] using this
  · have := run_loadCells_list (P := P) w ⟨b, o, none⟩ cs (fun j v hv => by rw [add_plain]; exact hc j v hv)
    rw [hl] at this
    simpa [Builtin.firstCells] using this

theorem get_append_left' {xs ys : List Value} {j : Nat} {v : Value} (h : xs[j]? = some v) : (xs ++ ys)[j]? = some v := by
  obtain ⟨hj, _⟩ := List.getElem?_eq_some_iff.1 h
  rw [List.getElem?_append_left hj]; exact h

/-- What an 'append' comes to: its operands' side. -/
def ownEs (es : Nat) : Own → Prop
  | .tok _ _ s => s = es
  | _ => True

theorem op_append (tk : TTok tt P) (hd : dstOk n dst = true) {t t2 : TypeId} {x y : Operand} {xs ys : List (List AVal)} {o o2 : Own} {e es eb : Nat} {e2 : Nat × Nat × Nat} (hx : opd F x = some (.sl xs o)) (hy : opd F y = some (.sl ys o2))
    (ht : find tt.slc t = some (e, es, eb)) (ht2 : find tt.slc t2 = some e2) (hux : Uni es xs) (huy : Uni es ys) (hfl : flatA ys.flatten = true) (hown : Owned H o) (hoe : ownEs es o) (hlen : (xs.length + ys.length) * eb ≤ 140737488355328)
    (hK : ∀ o', Apart (H.free o) o' → ownEs es o' → K (F.put dst (.sl (xs ++ ys) o')) ((H.free o).own o')) :
    AOp P n ops ⟨dst, .call { callee := .builtin .append, args := #[x, y], argTypes := #[t, t2] }, ty, pos, af, none⟩ F H K :=
  op_of_value hd fun g a w hi hf => by
    obtain ⟨hu, inf, z, hinf, hsz, hby, hes0, heb0, hz, hzs⟩ := tk.slc ht
    obtain ⟨hu2, _⟩ := tk.slc (e := e2.1) (es := e2.2.1) (eb := e2.2.2) ht2
    have hvx := hf.opd hx
    have hvy := hf.opd hy
    obtain ⟨ay, capy, ey, hcy, _, ds, hds, hdl, hdc⟩ := hvy.sl_cells hes0 huy
    obtain ⟨ax, capx, ex, hcx, _, cs, hcs, hcl, hcc⟩ := hvx.sl_cells hes0 hux
    have hfx : (Builtin.firstCells es xs.length (.slice ax xs.length capx)).run P w.drew = .ok cs.toArray w.drew := run_firstCells hcl (by
      rcases hcc with ⟨h1, h2, _⟩ | ⟨b, o, h1, h2, _⟩
      · exact .inl h2
      · exact .inr ⟨b, o, h1, h2⟩)
    have hfy : ∀ w', w'.heap = w.heap → (Builtin.firstCells es ys.length (.slice ay ys.length capy)).run P w' = .ok ds.toArray w' := fun w' hw' => run_firstCells hdl (by
      rcases hdc with ⟨h1, h2, _⟩ | ⟨b, o, h1, h2, _⟩
      · exact .inl h2
      · refine .inr ⟨b, o, h1, fun j v hv => ?_⟩
        have := h2 j v hv
        unfold World.cell? at this ⊢
        rw [hw']; exact this)
    have hlen' : xs.length + ys.length ≤ 140737488355328 := Nat.le_trans (Nat.le_mul_of_pos_right _ heb0) hlen
    have huxy := hux.append huy
    have hone : ∀ v ∈ ds, v.oneCell' = true := flat_one hds hfl
    by_cases hle : xs.length + ys.length ≤ capx
    · have hfyw := hfy w rfl
      rcases hcc with ⟨hxs0, hcs0, hcap0, hnt⟩ | ⟨b, off, rfl, hcell, himm, htok, hfull⟩
      · -- nil
        have hx0 : xs = [] := List.eq_nil_of_length_eq_zero (by omega)
        have hy0 : ys = [] := List.eq_nil_of_length_eq_zero (by omega)
        subst hx0 hy0
        cases o with
        | no => exact hown.elim
        | tok b e0 s => exact absurd rfl (hnt b e0 s)
        | full =>
          simp only [List.length_nil] at ex ey hfyw
          have hds0 : ds = [] := by simpa using hdl
          subst hds0
          exact ⟨.slice ax 0 capx, w, g, .sl ([] ++ []) .full, H, by cases ax <;> simp [execOp, resolve, invoke, builtin, Builtin.append_, ex, ey, run_underlying hu, run_underlying hu2, run_sizeOf' hinf, hsz, Builtin.lenOf, hfyw, storeCells], Ext.refl _ _, hi, by subst hcap0; exact .emptyF _, hK .full trivial trivial⟩
      · cases o with
        | no => exact hown.elim
        | full =>
          have hcap := hfull rfl
          have hy0 : ys = [] := List.eq_nil_of_length_eq_zero (by omega)
          subst hy0
          have hds0 : ds = [] := by simpa using hdl
          subst hds0
          simp only [List.length_nil] at ey hfyw
          refine ⟨.slice (some ⟨b, off, none⟩) xs.length capx, w, g, .sl (xs ++ []) .full, H, ?_, Ext.refl _ _, hi, by rw [ex] at hvx; simpa using hvx, hK .full trivial trivial⟩
          simp [execOp, resolve, invoke, builtin, Builtin.append_, ex, ey, run_underlying hu, run_underlying hu2, run_sizeOf' hinf, hsz, Builtin.lenOf, hcx, hfyw, storeCells]
        | tok b0 e0 s =>
          have hs : s = es := hoe
          subst hs
          obtain ⟨hb0, he0, hbase, el', nn, hs1, hs2⟩ := htok b0 e0 s rfl rfl
          subst hb0
          have hb : H b0 = some (.grow e0) := hown
          obtain ⟨_, ⟨hlim, hpr⟩, c, el, hw⟩ := hi.obj b0 _ hb
          simp only [World.shape?, hw] at hs1
          cases hs1
          have hmul : (xs.length + ys.length) * s ≤ capx * s := Nat.mul_le_mul_right _ hle
          have hadd : (xs.length + ys.length) * s = xs.length * s + ys.length * s := Nat.add_mul _ _ _
          have hst := run_storeCells_at P b0 (off + xs.length * s) el' ds 0 c w hw (by omega) hone
          simp only [Nat.add_zero] at hst
          have hc' : ∀ o, o < e0 → ((c.toList.take (off + xs.length * s) ++ ds ++ c.toList.drop (off + xs.length * s + ds.length)).toArray)[o]? = c[o]? := fun o ho => by
            have : o < (c.toList.take (off + xs.length * s)).length := by simp; omega
            simp only [List.getElem?_toArray, List.append_assoc]
            rw [List.getElem?_append_left this, List.getElem?_take, if_pos (by omega)]
            simp
          obtain ⟨hext, hinv⟩ := inv_grow hi hb (e' := off + (xs.length + ys.length) * s) hw (c' := (c.toList.take (off + xs.length * s) ++ ds ++ c.toList.drop (off + xs.length * s + ds.length)).toArray) (by simp; omega) (by omega) hc'
          refine ⟨.slice (some ⟨b0, off, none⟩) (xs ++ ys).length capx, _, _, .sl (xs ++ ys) (.tok b0 (off + (xs.length + ys.length) * s) s), _, ?_, hext, hinv, ?_, hK (.tok b0 (off + (xs.length + ys.length) * s) s) (by simp [AHeap.free, Apart, AHeap.del]) rfl⟩
          · simp [execOp, resolve, invoke, builtin, Builtin.append_, ex, ey, run_underlying hu, run_underlying hu2, run_sizeOf' hinf, hsz, Builtin.lenOf, hle, hfyw, add_plain, hst]
          · have hvr : VRs (g.fix b0 (off + (xs.length + ys.length) * s)) (w.setRow b0 (c.toList.take (off + xs.length * s) ++ ds ++ c.toList.drop (off + xs.length * s + ds.length)).toArray) (xs ++ ys).flatten (cs ++ ds) := by
              rw [List.flatten_append]; exact (hcs.mono hext).append (hds.mono hext)
            refine VR.sl_mk hes0 huxy hvr (fun j v hv => ?_) (by rw [List.length_append]; exact imm_seal _ _ _) (by simpa using hle) (by simp [maxLen]; omega) (hext.hasRow ⟨el', c.size, by simp [World.shape?, hw], by simpa using hs2⟩) ⟨rfl, by simp, rfl, by rw [hext.base]; exact hbase⟩
            rw [cell_setRow_same w b0 _ c _ el' (0, 0) hw]
            by_cases hj : j < cs.length
            · rw [List.getElem?_append_left hj] at hv
              have := hcell j v hv
              rw [cell_of_row w b0 _ c el' (0, 0) hw] at this
              rw [hc' _ (by omega)]
              exact this
            · rw [List.getElem?_append_right (by omega)] at hv
              obtain ⟨hj2, _⟩ := List.getElem?_eq_some_iff.1 hv
              have h1 : (c.toList.take (off + xs.length * s)).length = off + xs.length * s := by simp; omega
              simp only [List.getElem?_toArray, List.append_assoc]
              rw [List.getElem?_append_right (by omega), h1, show off + j - (off + xs.length * s) = j - cs.length by omega, List.getElem?_append_left hj2]
              exact hv
    · have hcapl : capx ≤ xs.length + ys.length := by omega
      have hmax : IntKind.i64.max = 9223372036854775807 := by decide
      have hnext : Builtin.nextslicecap (xs.length + ys.length) capx * eb ≤ 2 ^ 48 := by
        have h1 : Builtin.nextslicecap (xs.length + ys.length) capx ≤ 2 * (xs.length + ys.length) := by
          have := nextslicecap_le (xs.length + ys.length) capx (by omega)
          exact this
        have h2 := Nat.mul_le_mul_right eb h1
        rw [Nat.mul_assoc] at h2
        omega
      have hq : (Question.appendCap (xs.length + ys.length) capx e).forced = false := rfl
      let newCap := (Question.appendCap (xs.length + ys.length) capx e).cut (w.tape w.drawn (.appendCap (xs.length + ys.length) capx e))
      have hnc : xs.length + ys.length ≤ newCap := by simp only [newCap, Question.cut]; omega
      have hrun : (execOp a.eval ⟨dst, .call { callee := .builtin .append, args := #[x, y], argTypes := #[t, t2] }, ty, pos, af, none⟩).run P w =
          .ok (.value (.slice (some ⟨w.heap.size, 0, none⟩) (xs.length + ys.length) newCap)) (w.drew.alloc (.cells (cs.toArray ++ ds.toArray ++ Builtin.zeroCells z.cells (newCap - (xs.length + ys.length))) e)) := by
        have hc1 : ¬ (9223372036854775807 < (xs.length : Int) + (ys.length : Int)) := by omega
        have hc2 : ¬ (281474976710656 < Builtin.nextslicecap (xs.length + ys.length) capx * eb) := by omega
        have hfyd := hfy w.drew rfl
        simp [execOp, resolve, invoke, builtin, Builtin.append_, ex, ey, run_underlying hu, run_underlying hu2, run_sizeOf' hinf, hsz, Builtin.lenOf, hle, run_typeInfo _ hinf, hby, hc1, hc2, hq, hfx, hfyd, run_zeroValue' hinf hz, newRow, hmax]
        refine ⟨rfl, ?_⟩
        rw [← Array.append_assoc]
        simp [newCap]
      have hi' := hi.free (o := o) |>.drew
      obtain ⟨hext, hinv⟩ := inv_new hi' ((xs.length + ys.length) * es) (cs.toArray ++ ds.toArray ++ Builtin.zeroCells z.cells (newCap - (xs.length + ys.length))) e
      have hext' := (ext_drew g w).trans hext
      refine ⟨.slice (some ⟨w.heap.size, 0, none⟩) (xs ++ ys).length newCap, _, _, .sl (xs ++ ys) (.tok w.heap.size ((xs.length + ys.length) * es) es), _, by rw [hrun, List.length_append], hext', hinv, ?_, hK (.tok w.heap.size ((xs.length + ys.length) * es) es) (hi'.size_fresh) rfl⟩
      have hvr : VRs (g.fix w.drew.heap.size ((xs.length + ys.length) * es)) (w.drew.alloc (.cells (cs.toArray ++ ds.toArray ++ Builtin.zeroCells z.cells (newCap - (xs.length + ys.length))) e)) (xs ++ ys).flatten (cs ++ ds) := by
        rw [List.flatten_append]; exact (hcs.mono hext').append (hds.mono hext')
      refine VR.sl_mk hes0 huxy hvr (fun j v hv => ?_) (by rw [List.length_append, Nat.zero_add]; exact imm_seal _ _ _) (by simpa using hnc) (by simp [maxLen]; omega) ⟨e, _, by unfold World.shape?; rw [show w.heap.size = w.drew.heap.size from rfl, heap_alloc_new], ?_⟩ ⟨rfl, by simp, rfl, by rw [hext'.base]; exact hi.base_le⟩
      · rw [Nat.zero_add, show w.heap.size = w.drew.heap.size from rfl, cell_of_row _ _ j _ e (0, 0) (heap_alloc_new w.drew _)]
        have : (cs.toArray ++ ds.toArray ++ Builtin.zeroCells z.cells (newCap - (xs.length + ys.length))) = (cs ++ ds ++ (Builtin.zeroCells z.cells (newCap - (xs.length + ys.length))).toList).toArray := by simp
        rw [this, List.getElem?_toArray]
        exact get_append_left' hv
      · have hzc : (Builtin.zeroCells z.cells (newCap - (xs.length + ys.length))).size = (newCap - (xs.length + ys.length)) * es := by simp [Builtin.zeroCells, hzs]
        have h1 : newCap * es = (xs.length + ys.length) * es + (newCap - (xs.length + ys.length)) * es := by rw [← Nat.add_mul]; congr 1; omega
        have h2 : (xs.length + ys.length) * es = xs.length * es + ys.length * es := Nat.add_mul _ _ _
        simp [hzc, hcl, hdl]
        omega
end
end Abs
end Go.Proofs.Ytbldnaflffmddaa

set_option linter.unusedVariables false
namespace Go.Proofs.Ytbldnaflffmddaa
namespace Abs
open Go.RowKit

section
variable {P : Program} {tt : TT} {n : Nat} {ops : Array Oper} {F : Fr} {H : AHeap} {dst : Option Tmp} {ty : TypeId} {pos : String} {af : Array Edge} {K : APost}

/-! ### an element's place -/
theorem pures_index_sl (tk : TTok tt P) {t : TypeId} {x i : Operand} {xs : List (List AVal)} {o : Own} {k : IntKind} {q : Int} {e es eb : Nat} {c : List AVal} (hx : opd F x = some (.sl xs o)) (hi : opd F i = some (.sc (.int k q)))
    (ht : find tt.slc t = some (e, es, eb)) (h0 : 0 ≤ q) (hc : xs[q.toNat]? = some c) (hl : c.length = es) : Pures P n ⟨dst, .indexAddr t x i, ty, pos, af, none⟩ F (.ept c 0) := fun g a w hf => by
  have e2 := (hf.opd hi).eq_sc
  have hv := hf.opd hx
  generalize hcv : a.eval x = cv at hv
  obtain ⟨hu, inf, z, hinf, hsz, _⟩ := tk.slc ht
  obtain ⟨hq, rfl⟩ := List.getElem?_eq_some_iff.1 hc
  cases hv with
  | nil => exact absurd hq (Nat.not_lt_zero _)
  | nil' => exact absurd hq (Nat.not_lt_zero _)
  | zero => exact absurd hq (Nat.not_lt_zero _)
  | zero' => exact absurd hq (Nat.not_lt_zero _)
  | @sl _ _ b off es' cap cv h1 h2 h3 h4 h5 h6 h7 h8 =>
    have hes : es' = es := by rw [← hl]; exact (h1 _ hq).symm
    subst hes
    have hb : (q.toNat + 1) * es' ≤ xs.length * es' := Nat.mul_le_mul_right _ hq
    have hb2 : (q.toNat + 1) * es' = q.toNat * es' + es' := Nat.succ_mul _ _
    refine ⟨.pointer (some ⟨b, off + q.toNat * es' + 0, none⟩), fun w' => ?_, ?_⟩
    · have hlt : q < (xs.length : Int) := by omega
      simp [execOp, Instr.indexAt, hcv, e2, asIntOf, run_underlying hu, h0, hlt, run_sizeOf' hinf, hsz, add_plain]
    · refine .ept (fun j => cv q.toNat j) ?_ (fun j hj => h7 _ hq j hj) (fun j hj => h8 _ hq j hj)
      rcases h2 with h2 | h2
      · exact .inl h2
      · refine .inr ?_; omega
theorem pures_index_arr (tk : TTok tt P) {t : TypeId} {x i : Operand} {b off : Nat} {k : IntKind} {q : Int} {m e es : Nat} {ag : Bool} (hx : opd F x = some (.ptr b off)) (hi : opd F i = some (.sc (.int k q)))
    (ht : find tt.arr t = some (m, e)) (hs : find tt.size e = some (es, ag)) (h0 : 0 ≤ q) (h1 : q < m) : Pures P n ⟨dst, .indexAddr t x i, ty, pos, af, none⟩ F (.ptr b (off + q.toNat * es)) := fun g a w hf => by
  have e1 := (hf.opd hx).eq_ptr
  have e2 := (hf.opd hi).eq_sc
  have hu := tk.arr ht
  obtain ⟨inf, d, hinf, hsz, _⟩ := tk.size hs
  exact ⟨.pointer (some ⟨b, off + q.toNat * es, none⟩), fun w' => by simp [execOp, Instr.indexAt, e1, e2, asIntOf, run_underlying hu, Instr.sureAddr, h0, h1, run_sizeOf' hinf, hsz, add_plain], .ptr⟩
theorem pures_index_row (tk : TTok tt P) {t : TypeId} {x i : Operand} {b off m cap : Nat} {k : IntKind} {q : Int} {e es eb : Nat} (hx : opd F x = some (.row b off m cap)) (hi : opd F i = some (.sc (.int k q)))
    (ht : find tt.slc t = some (e, es, eb)) (h0 : 0 ≤ q) (h1 : q < m) : Pures P n ⟨dst, .indexAddr t x i, ty, pos, af, none⟩ F (.ptr b (off + q.toNat * es)) := fun g a w hf => by
  have hv := hf.opd hx
  generalize hcv : a.eval x = cv at hv
  have e2 := (hf.opd hi).eq_sc
  obtain ⟨hu, inf, z, hinf, hsz, _⟩ := tk.slc ht
  cases hv
  exact ⟨.pointer (some ⟨b, off + q.toNat * es, none⟩), fun w' => by simp [execOp, Instr.indexAt, hcv, e2, asIntOf, run_underlying hu, h0, h1, run_sizeOf' hinf, hsz, add_plain], .ptr⟩

/-! ### slices of slices and strings -/
/-- A bound that is there or not. -/
def bnd (F : Fr) (d : Int) : Option Operand → Option Int
  | none => some d
  | some x => match opd F x with
    | some (.sc (.int _ q)) => some q
    | _ => none
theorem bnd_some {g : Ghost} {w : World} {a : Act} (hf : FR g w n F a) {x : Operand} {d q : Int} (h : bnd F d (some x) = some q) : ∃ k, a.eval x = .int k q := by
  simp only [bnd] at h
  split at h
  · rename_i k p hp; cases h; exact ⟨k, (hf.opd hp).eq_sc⟩
  · cases h

theorem run_bound {w : World} {k : IntKind} {q : Int} {y : Nat} (c : BoundsCode) (h0 : 0 ≤ q) (h1 : q ≤ y) : (Instr.sliceBound (.int k q) y c).run P w = .ok q.toNat w := by
  simp [Instr.sliceBound, asIntOf, h0, h1]
theorem run_bounds {g : Ghost} {w : World} {a : Act} (hf : FR g w n F a) {lo hi : Option Operand} {l h : Int} {len cap : Nat} (isSl : Bool) (hl : bnd F 0 lo = some l) (hh : bnd F len hi = some h) (h0 : 0 ≤ l) (h1 : l ≤ h) (h2 : h ≤ cap) (w' : World) :
    (Instr.sliceBounds isSl len cap (lo.map a.eval) (hi.map a.eval) none).run P w' = .ok (l.toNat, h.toNat, cap) w' := by
  cases lo with
  | none =>
    simp only [bnd, Option.some.injEq] at hl
    subst hl
    cases hi with
    | none =>
      simp only [bnd, Option.some.injEq] at hh
      subst hh
      simp [Instr.sliceBounds]
    | some y =>
      obtain ⟨k, hk⟩ := bnd_some hf hh
      simp [Instr.sliceBounds, hk, run_bound _ (show 0 ≤ h by omega) h2]
  | some x =>
    obtain ⟨k, hk⟩ := bnd_some hf hl
    cases hi with
    | none =>
      simp only [bnd, Option.some.injEq] at hh
      subst hh
      simp [Instr.sliceBounds, hk, run_bound _ h0 h1]
    | some y =>
      obtain ⟨k', hk'⟩ := bnd_some hf hh
      simp [Instr.sliceBounds, hk, hk', run_bound _ (show 0 ≤ h by omega) h2, run_bound (y := h.toNat) _ h0 (by omega)]
theorem pures_slice_str (tk : TTok tt P) {t : TypeId} {x : Operand} {lo hi : Option Operand} {s : ByteArray} {l h : Int} {u : Unit} (hx : opd F x = some (.sc (.string s))) (ht : find tt.strs t = some u)
    (hl : bnd F 0 lo = some l) (hh : bnd F s.size hi = some h) (h0 : 0 ≤ l) (h1 : l ≤ h) (h2 : h ≤ s.size) : Pures P n ⟨dst, .slice t x lo hi none, ty, pos, af, none⟩ F (.sc (.string (s.extract l.toNat h.toNat))) := fun g a w hf => by
  have e1 := (hf.opd hx).eq_sc
  have hu := tk.strs ht
  refine ⟨.string (s.extract l.toNat h.toNat), fun w' => ?_, .sc trivial⟩
  have hsb := run_bounds (P := P) hf (len := s.size) (cap := s.size) false hl hh h0 h1 h2 w'
  simp [execOp, Instr.sliceAt, Instr.slice, e1, run_underlying hu, hsb]
/-- A byte of a string. -/
theorem pures_index_str (tk : TTok tt P) {t : TypeId} {x i : Operand} {s : ByteArray} {k : IntKind} {q : Int} {u : Unit} (hx : opd F x = some (.sc (.string s))) (hi : opd F i = some (.sc (.int k q))) (ht : find tt.strs t = some u)
    (h0 : 0 ≤ q) {c : UInt8} (hc : s.data.toList[q.toNat]? = some c) : Pures P n ⟨dst, .index t x i, ty, pos, af, none⟩ F (.sc (.int .u8 c.toNat)) := fun g a w hf => by
  have e1 := (hf.opd hx).eq_sc
  have e2 := (hf.opd hi).eq_sc
  have hu := tk.strs ht
  have hc' : s[q.toNat]? = some c := by
    obtain ⟨hq, he⟩ := List.getElem?_eq_some_iff.1 hc
    have hq' : q.toNat < s.size := by rw [Array.length_toList] at hq; exact hq
    rw [getElem?_pos s q.toNat hq']
    congr 1
  refine ⟨.int .u8 c.toNat, fun w' => ?_, .sc trivial⟩
  have h1 : (Instr.index t (.string s) (.int k q)).run P w' = .ok (.int .u8 c.toNat) w' := by
    unfold Instr.index
    rw [Sem.run_bind]
    simp only [asIntOf, Sem.run_pure, Result.andThen_ok]
    rw [Sem.run_bind, run_underlying hu]
    simp only [Result.andThen_ok, if_pos h0, hc']
    rfl
  simp only [execOp, e1, e2, Sem.run_bind, h1, Result.andThen_ok, Sem.run_pure]

/-! ### slices and structs that are written out -/
def rowsOf : List AVal → Option (List (List AVal))
  | [] => some []
  | v :: vs => match cellsOf v, rowsOf vs with | some x, some xs => some (x :: xs) | _, _ => none
theorem fold_set (vs : List Value) (k off : Nat) (cs : Array Value) (h : off + k + vs.length ≤ cs.size) :
      ((vs.zipIdx k).foldl (fun c (p : Value × Nat) => c.setIfInBounds (off + p.2) p.1) cs).toList = cs.toList.take (off + k) ++ vs ++ cs.toList.drop (off + k + vs.length) := by
  induction vs generalizing k cs with
  | nil => simp
  | cons v vs ih =>
    simp only [List.zipIdx_cons, List.foldl_cons]
    rw [ih (k + 1) (cs.setIfInBounds (off + k) v) (by simp at h ⊢; omega)]
    have := list_seg_step cs.toList (off + k) v vs (by simp at h ⊢; omega)
    simpa [Array.toList_setIfInBounds, Nat.add_assoc] using this
/-- The model's 'fill', on lists of cells. -/
theorem fill_step {place : Nat → Option (Nat × Nat)} {cells : Array Value} {i off sz : Nat} {v : Value} {rest : List (Nat × Value)} (hp : place i = some (off, sz)) (hs : v.cells.size = sz) (hl : off + sz ≤ cells.size) :
    Instr.fill place cells ((i, v) :: rest) = Instr.fill place (cells.toList.take off ++ v.cells.toList ++ cells.toList.drop (off + sz)).toArray rest := by
  simp only [Instr.fill, hp]
  have h1 : (v.cells.size ≠ sz || off + v.cells.size > cells.size) = false := by simp [hs]; omega
  rw [h1]
  simp only [Bool.false_eq_true, if_false]
  congr 1
  have h2 := fold_set v.cells.toList 0 off cells (by simp [hs]; omega)
  have h3 : v.cells.zipIdx.foldl (fun cs (x : Value × Nat) => cs.setIfInBounds (off + x.2) x.1) cells = (v.cells.toList.zipIdx 0).foldl (fun c (p : Value × Nat) => c.setIfInBounds (off + p.2) p.1) cells := by
    rw [← Array.foldl_toList]; simp
  apply Array.ext'
  simp only [Nat.add_zero, Array.length_toList, hs] at h2
  rw [← h2, ← h3]

/-- A struct's parts, put into its zero value. -/
def fillA (tt : TT) (fs : List (Nat × Nat)) : List AVal → List (Nat × AVal) → Option (List AVal)
  | cs, [] => some cs
  | cs, (i, v) :: rest => match fs[i]?, cellsOf v with
    | some (t, off), some vs => match find tt.size t with
      | some (k, _) => bif Nat.beq vs.length k && Nat.ble (off + k) cs.length then fillA tt fs (cs.take off ++ vs ++ cs.drop (off + k)) rest else none
      | none => none
    | _, _ => none
def partsA (F : Fr) : List (Nat × Operand) → Option (List (Nat × AVal))
  | [] => some []
  | (i, x) :: l => match opd F x, partsA F l with | some v, some r => some ((i, v) :: r) | _, _ => none
theorem partsA_ok {g : Ghost} {w : World} {a : Act} (hf : FR g w n F a) : ∀ {l : List (Nat × Operand)} {r : List (Nat × AVal)}, partsA F l = some r → r.map (·.1) = l.map (·.1) ∧ ∀ j (h : j < r.length) (h' : j < l.length), VR g w r[j].2 (a.eval l[j].2)
  | [], r, h => by cases h; exact ⟨rfl, fun j h => absurd h (Nat.not_lt_zero _)⟩
  | (i, x) :: l, r, h => by
    simp only [partsA] at h
    split at h
    · rename_i v r' hx hr
      cases h
      obtain ⟨h1, h2⟩ := partsA_ok hf hr
      refine ⟨by simp [h1], fun j hj hj' => ?_⟩
      cases j with
      | zero => exact hf.opd hx
      | succ j => exact h2 j (by simpa using hj) (by simpa using hj')
    · cases h
theorem fillA_ok (tk : TTok tt P) {g : Ghost} {w : World} {a : Act} {fs : List (Nat × Nat)} {place : Nat → Option (Nat × Nat)} (hpl : ∀ (i t off k : Nat) (ag : Bool), fs[i]? = some (t, off) → find tt.size t = some (k, ag) → place i = some (off, k)) :
    ∀ {l : List (Nat × Operand)} {r : List (Nat × AVal)} {cs : List AVal} {cc : Array Value} {out : List AVal}, r.map (·.1) = l.map (·.1) → (∀ j (h : j < r.length) (h' : j < l.length), VR g w r[j].2 (a.eval l[j].2)) → VRs g w cs cc.toList →
      fillA tt fs cs r = some out → ∃ oc : Array Value, Instr.fill place cc (l.map fun p => (p.1, a.eval p.2)) = some oc ∧ VRs g w out oc.toList
  | [], r, cs, cc, out, h1, h2, h3, h => by
    have : r = [] := by simpa using h1
    subst this
    cases h
    exact ⟨cc, rfl, h3⟩
  | (i, x) :: l, r, cs, cc, out, h1, h2, h3, h => by
    cases r with
    | nil => simp at h1
    | cons p r =>
      obtain ⟨i', v⟩ := p
      simp only [List.map_cons, List.cons.injEq] at h1
      obtain ⟨rfl, h1⟩ := h1
      simp only [fillA] at h
      split at h
      · rename_i t off vs hfi hcv
        split at h
        · rename_i k ag hk
          cases hb : (Nat.beq vs.length k && Nat.ble (off + k) cs.length) with
          | false => rw [hb] at h; cases h
          | true =>
            rw [hb] at h
            simp only [Bool.and_eq_true] at hb
            have hk1 := Nat.eq_of_beq_eq_true hb.1
            have hk2 := Nat.le_of_ble_eq_true hb.2
            have hv0 : VR g w v (a.eval x) := h2 0 (by simp) (by simp)
            have hvc := hv0.cellsOf hcv
            have hsz : (a.eval x).cells.size = k := by have := hvc.1; simp at this; omega
            have hcl := h3.1
            simp only [List.map_cons]
            rw [fill_step (hpl i' t off k ag hfi hk) hsz (by simp at hcl; omega)]
            exact fillA_ok tk hpl h1 (fun j hj hj' => h2 (j + 1) (by simpa using hj) (by simpa using hj')) (by simpa using ((h3.take off).append hvc).append (h3.drop (off + k))) h
        · cases h
      · cases h
theorem mapM_run {α β : Type} {f : α → Sem β} {h : α → β} {w : World} : ∀ {l : List α}, (∀ x, x ∈ l → (f x).run P w = .ok (h x) w) → (l.mapM f).run P w = .ok (l.map h) w
  | [], _ => rfl
  | x :: l, hx => by
    rw [List.mapM_cons]
    simp [hx x List.mem_cons_self, mapM_run fun y hy => hx y (List.mem_cons_of_mem _ hy)]
/-- A struct, written out. -/
theorem pures_build (tk : TTok tt P) {t : TypeId} {parts : Array (Nat × Operand)} {fs : List (Nat × Nat)} {zs : List Value} {cs out : List AVal} {r : List (Nat × AVal)} (hfs : find tt.flds t = some fs) (hz : find tt.zero t = some zs) (hc : absL zs = some cs)
    (hr : partsA F parts.toList = some r) (ho : fillA tt fs cs r = some out) : Pures P n ⟨dst, .build t parts, ty, pos, af, none⟩ F (.agg out) := fun g a w hf => by
  obtain ⟨fds, h1, h2, h3⟩ := tk.flds hfs
  obtain ⟨i, v, hi, hzv, hzs⟩ := tk.zero hz
  obtain ⟨p1, p2⟩ := partsA_ok hf hr
  let sz : Field → Nat := fun f => ((P.info? f.type).map (·.size)).getD 0
  have hsz : ∀ f, f ∈ fds.toList → ∀ w', (sizeOf f.type).run P w' = .ok (sz f) w' := fun f hfm w' => by
    obtain ⟨inf, hinf, _⟩ := h3 f hfm
    rw [run_sizeOf' hinf]
    simp [sz, hinf]
  have hpl : ∀ (i t off k : Nat) (ag : Bool), fs[i]? = some (t, off) → find tt.size t = some (k, ag) → (fds.map fun f => (f.offset, sz f))[i]? = some (off, k) := fun i t off k ag hfi hk => by
    rw [← h2] at hfi
    simp only [List.getElem?_map, Option.map_eq_some_iff] at hfi
    obtain ⟨fd, hfd, he⟩ := hfi
    cases he
    obtain ⟨inf, d, hinf, hk', _⟩ := tk.size hk
    have : fds[i]? = some fd := by simpa using hfd
    simp [this, sz, hinf, hk']
  obtain ⟨oc, ho1, ho2⟩ := fillA_ok tk (a := a) hpl p1 p2 (cc := v.cells) (by rw [hzs]; exact absL_ok hc) ho
  refine ⟨.agg oc, fun w' => ?_, .agg ho2.arr.1 ho2.arr.2⟩
  have hmap : (fds.mapM fun f => do pure (f.offset, ← sizeOf f.type) : Sem (Array (Nat × Nat))).run P w' = .ok (fds.map fun f => (f.offset, sz f)) w' := by
    rw [Array.mapM_eq_mapM_toList]
    have := mapM_run (P := P) (w := w') (l := fds.toList) (f := fun f => (do pure (f.offset, ← sizeOf f.type) : Sem (Nat × Nat))) (h := fun f => (f.offset, sz f)) (fun f hfm => by simp [hsz f hfm w'])
    rw [Sem.run_map, this]
    simp [← Array.toList_map]
  simp only [execOp, Instr.build, Sem.run_bind, run_zeroValue' hi hzv, Result.andThen_ok, run_underlying h1, hmap]
  have hl : (parts.map fun x => (x.1, a.eval x.2)).toList = parts.toList.map fun p => (p.1, a.eval p.2) := by simp
  have ho1' : Instr.fill (fun x => (fds.map fun f => (f.offset, sz f))[x]?) v.cells (parts.map fun x => (x.1, a.eval x.2)).toList = some oc := by rw [hl]; exact ho1
  rw [ho1']
  rfl
end
end Abs
end Go.Proofs.Ytbldnaflffmddaa

set_option linter.unusedVariables false
namespace Go.Proofs.Ytbldnaflffmddaa
namespace Abs

theorem wrap_id {n : Int} (h : -9223372036854775808 ≤ n ∧ n ≤ 9223372036854775807) : IntKind.i64.wrap n = n := by
  simp only [IntKind.wrap, IntKind.signed]
  simp [IntKind.bits]
  omega
/-! ### Steps of a walk: an operation at a time -/
section
variable {P : Program} {tt : TT} {n : Nat} {ops : Array Oper} {rest : List Oper} {F : Fr} {H : AHeap} {dst : Option Tmp} {ty : TypeId} {pos : String} {af : Array Edge} {K : APost}

theorem s_pure (tk : TTok tt P) {op : Op} {v : AVal} (hd : dstOk n dst = true) (h : pev tt F op = some v) (hK : AOps P n ops rest (F.put dst v) H K) : AOps P n ops (⟨dst, op, ty, pos, af, none⟩ :: rest) F H K :=
  AOps_cons (op_pure tk hd h hK)
theorem s_yes {op : Op} {jw : Nat × Bool} (hg : gval ops F (some jw) = some true) (h : AOps P n ops (⟨dst, op, ty, pos, af, none⟩ :: rest) F H K) : AOps P n ops (⟨dst, op, ty, pos, af, some jw⟩ :: rest) F H K := fun g a w Q hi hf hk => by
  have hw := wanted_of hf (o := ⟨dst, op, ty, pos, af, some jw⟩) hg
  have := h g a w Q hi hf hk
  unfold wpList at this ⊢
  rw [wanted_none] at this
  rw [if_pos hw]
  exact this
theorem s_no {op : Op} {jw : Nat × Bool} (hd : dstOk n dst = true) (hg : gval ops F (some jw) = some false) (h : AOps P n ops rest (F.put dst (.tup [])) H K) : AOps P n ops (⟨dst, op, ty, pos, af, some jw⟩ :: rest) F H K :=
  AOps_cons (op_guard_no hd hg h)
/-- A guard that is not known: both ways. -/
theorem s_gsplit {op : Op} {j : Nat} {want b : Bool} {d : Nat} (hj : (ops[j]?).bind (·.dst) = some d) (hx : F.get d = some (.sc (.bool b)))
    (ht : b = true → AOps P n ops (⟨dst, op, ty, pos, af, some (j, want)⟩ :: rest) ((d, .sc (.bool true)) :: F) H K) (hf : b = false → AOps P n ops (⟨dst, op, ty, pos, af, some (j, want)⟩ :: rest) ((d, .sc (.bool false)) :: F) H K) :
    AOps P n ops (⟨dst, op, ty, pos, af, some (j, want)⟩ :: rest) F H K := AOps_split d b hx ht hf
theorem s_pick {c x y : Operand} {b p q : Bool} (hd : dstOk n dst = true) (hc : opd F c = some (.sc (.bool b))) (hx : opd F x = some (.sc (.bool p))) (hy : opd F y = some (.sc (.bool q)))
    (hK : AOps P n ops rest (F.put dst (.sc (.bool (bif b then p else q)))) H K) : AOps P n ops (⟨dst, .pick c x y, ty, pos, af, none⟩ :: rest) F H K := AOps_cons (op_of_pures (pures_pick hc hx hy) hd hK)
theorem s_add {t yt : TypeId} {x y : Operand} {p q : Int} (hd : dstOk n dst = true) (hx : opd F x = some (.sc (.int .i64 p))) (hy : opd F y = some (.sc (.int .i64 q))) (hb : -9223372036854775808 ≤ p + q ∧ p + q ≤ 9223372036854775807)
    (hK : AOps P n ops rest (F.put dst (.sc (.int .i64 (p + q)))) H K) : AOps P n ops (⟨dst, .binOp .add t x y yt, ty, pos, af, none⟩ :: rest) F H K :=
  AOps_cons (op_of_pures (pures_arith hx hy (by simp only [wrap_id hb])) hd hK)
theorem s_sub {t yt : TypeId} {x y : Operand} {p q : Int} (hd : dstOk n dst = true) (hx : opd F x = some (.sc (.int .i64 p))) (hy : opd F y = some (.sc (.int .i64 q))) (hb : -9223372036854775808 ≤ p - q ∧ p - q ≤ 9223372036854775807)
    (hK : AOps P n ops rest (F.put dst (.sc (.int .i64 (p - q)))) H K) : AOps P n ops (⟨dst, .binOp .sub t x y yt, ty, pos, af, none⟩ :: rest) F H K :=
  AOps_cons (op_of_pures (pures_arith hx hy (by simp only [wrap_id hb])) hd hK)
theorem s_arith {op : BinOp} {t yt : TypeId} {x y : Operand} {k : IntKind} {p q r : Int} (hd : dstOk n dst = true) (hx : opd F x = some (.sc (.int k p))) (hy : opd F y = some (.sc (.int k q)))
    (hr : (match op with | .add => some (k.wrap (p + q)) | .sub => some (k.wrap (p - q)) | .mul => some (k.wrap (p * q)) | _ => none) = some r)
    (hK : AOps P n ops rest (F.put dst (.sc (.int k r))) H K) : AOps P n ops (⟨dst, .binOp op t x y yt, ty, pos, af, none⟩ :: rest) F H K := AOps_cons (op_of_pures (pures_arith hx hy hr) hd hK)
theorem s_conv (tk : TTok tt P) {src d : TypeId} {x : Operand} {j k : IntKind} {p r : Int} (hd : dstOk n dst = true) (hx : opd F x = some (.sc (.int j p))) (hs : find tt.ints src = some j) (hdd : find tt.ints d = some k) (hr : k.wrap p = r)
    (hK : AOps P n ops rest (F.put dst (.sc (.int k r))) H K) : AOps P n ops (⟨dst, .convert src d x, ty, pos, af, none⟩ :: rest) F H K := AOps_cons (op_of_pures (pures_conv (u := ()) tk hx hs hdd hr) hd hK)
theorem s_load (tk : TTok tt P) {t : TypeId} {x : Operand} {b off k : Nat} {cs : List AVal} {v : AVal} (hd : dstOk n dst = true) (hx : opd F x = some (.ptr b off)) (hH : Rd H b cs) (ht : find tt.size t = some (k, false)) (hv : cs[off]? = some v)
    (hK : AOps P n ops rest (F.put dst v) H K) : AOps P n ops (⟨dst, .load t x, ty, pos, af, none⟩ :: rest) F H K := AOps_cons (op_of_reads hd (reads_load_sc tk hx hH ht hv) hK)
theorem s_loada (tk : TTok tt P) {t : TypeId} {x : Operand} {b off k : Nat} {cs ds : List AVal} (hd : dstOk n dst = true) (hx : opd F x = some (.ptr b off)) (hH : Rd H b cs) (ht : find tt.size t = some (k, true)) (hl : off + k ≤ cs.length)
    (hds : (cs.drop off).take k = ds) (hK : AOps P n ops rest (F.put dst (.agg ds)) H K) : AOps P n ops (⟨dst, .load t x, ty, pos, af, none⟩ :: rest) F H K := AOps_cons (op_of_reads hd (by subst hds; exact reads_load_agg tk hx hH ht hl) hK)
theorem s_loadw (tk : TTok tt P) {t : TypeId} {x : Operand} {b k : Nat} {cs : List AVal} (hd : dstOk n dst = true) (hx : opd F x = some (.ptr b 0)) (hH : Rd H b cs) (ht : find tt.size t = some (k, true)) (hl : cs.length = k)
    (hK : AOps P n ops rest (F.put dst (.agg cs)) H K) : AOps P n ops (⟨dst, .load t x, ty, pos, af, none⟩ :: rest) F H K := AOps_cons (op_of_reads hd (reads_load_whole tk hx hH ht hl) hK)
theorem s_ept (tk : TTok tt P) {t : TypeId} {x : Operand} {c : List AVal} {off k : Nat} {v : AVal} (hd : dstOk n dst = true) (hx : opd F x = some (.ept c off)) (ht : find tt.size t = some (k, false)) (hv : c[off]? = some v)
    (hK : AOps P n ops rest (F.put dst v) H K) : AOps P n ops (⟨dst, .load t x, ty, pos, af, none⟩ :: rest) F H K := AOps_cons (op_of_reads hd (reads_ept_sc tk hx ht hv) hK)
theorem s_epta (tk : TTok tt P) {t : TypeId} {x : Operand} {c ds : List AVal} {off k : Nat} (hd : dstOk n dst = true) (hx : opd F x = some (.ept c off)) (ht : find tt.size t = some (k, true)) (hl : off + k ≤ c.length) (hds : (c.drop off).take k = ds)
    (hK : AOps P n ops rest (F.put dst (.agg ds)) H K) : AOps P n ops (⟨dst, .load t x, ty, pos, af, none⟩ :: rest) F H K := AOps_cons (op_of_reads hd (by subst hds; exact reads_ept_agg tk hx ht hl) hK)
theorem s_store (tk : TTok tt P) {t : TypeId} {x y : Operand} {b off : Nat} {cs : List AVal} {v : AVal} (hx : opd F x = some (.ptr b off)) (hy : opd F y = some v) (hH : H b = some (.cells cs))
    (ht : find tt.size t = some (1, false)) (hl : off < cs.length) (h1 : one v = true) (hK : AOps P n ops rest F (H.put b (.cells (cs.set off v))) K) : AOps P n ops (⟨none, .store t x y, ty, pos, af, none⟩ :: rest) F H K := AOps_cons (op_store_sc (k := 1) tk hx hy hH ht hl h1 hK)
theorem s_storea (tk : TTok tt P) {t : TypeId} {x y : Operand} {b off k : Nat} {cs vs ds : List AVal} (hx : opd F x = some (.ptr b off)) (hy : opd F y = some (.agg vs)) (hH : H b = some (.cells cs))
    (ht : find tt.size t = some (k, true)) (hk' : vs.length = k) (hl : off + k ≤ cs.length) (h1 : flatA vs = true) (hds : cs.take off ++ vs ++ cs.drop (off + k) = ds) (hK : AOps P n ops rest F (H.put b (.cells ds)) K) : AOps P n ops (⟨none, .store t x y, ty, pos, af, none⟩ :: rest) F H K :=
  AOps_cons (op_store_agg tk hx hy hH ht hk' hl h1 (by rw [hds]; exact hK))
theorem s_storew (tk : TTok tt P) {t : TypeId} {x y : Operand} {b k : Nat} {cs vs : List AVal} (hx : opd F x = some (.ptr b 0)) (hy : opd F y = some (.agg vs)) (hH : H b = some (.cells cs))
    (ht : find tt.size t = some (k, true)) (hk' : vs.length = k) (hl : cs.length = k) (h1 : flatA vs = true) (hK : AOps P n ops rest F (H.put b (.cells vs)) K) : AOps P n ops (⟨none, .store t x y, ty, pos, af, none⟩ :: rest) F H K := AOps_cons (op_store_whole tk hx hy hH ht hk' hl h1 hK)
theorem s_box (hd : dstOk n dst = true) {e : TypeId} {x : Operand} {v : AVal} {cs : List AVal} (hx : opd F x = some v) (hc : cellsOf v = some cs) (hK : ∀ b, H b = none → AOps P n ops rest (F.put dst (.ptr b 0)) (H.put b (.cells cs)) K) :
    AOps P n ops (⟨dst, .box e x, ty, pos, af, none⟩ :: rest) F H K := AOps_cons (op_box hd hx hc hK)
theorem s_alloc (tk : TTok tt P) (hd : dstOk n dst = true) {e : TypeId} {zs : List Value} {cs : List AVal} (hz : find tt.zero e = some zs) (hc : absL zs = some cs) (hK : ∀ b, H b = none → AOps P n ops rest (F.put dst (.ptr b 0)) (H.put b (.cells cs)) K) :
    AOps P n ops (⟨dst, .alloc e, ty, pos, af, none⟩ :: rest) F H K := AOps_cons (op_alloc tk hd hz hc hK)
theorem s_call (hd : dstOk n dst = true) {f : FuncId} {vs : List AVal} {xs : Array Operand} {at_ : Array TypeId} (hxs : opds F xs.toList = some vs) (hf : fnOk P f = true)
    (hK : ACalls P f vs H (fun v H' => AOps P n ops rest (F.put dst v) H' K)) : AOps P n ops (⟨dst, .call { callee := .value (.func f), args := xs, argTypes := at_ }, ty, pos, af, none⟩ :: rest) F H K := AOps_cons (op_call hd hf hxs hK)
theorem s_clo (hd : dstOk n dst = true) {c : Nat} {f : FuncId} {fs cs vs : List AVal} {xs : Array Operand} {at_ : Array TypeId} (hc : F.get c = some (.clo f fs cs)) (hxs : opds F xs.toList = some vs) (hf : fnOk P f = true)
    (hK : ACalls P f (fs ++ vs ++ cs) H (fun v H' => AOps P n ops rest (F.put dst v) H' K)) : AOps P n ops (⟨dst, .call { callee := .value (.tmp c), args := xs, argTypes := at_ }, ty, pos, af, none⟩ :: rest) F H K := AOps_cons (op_call_clo (c := .tmp c) hd hc hf hxs hK)
theorem s_index (tk : TTok tt P) {t : TypeId} {x i : Operand} {xs : List (List AVal)} {o : Own} {k : IntKind} {q : Int} {e es eb : Nat} {c : List AVal} (hd : dstOk n dst = true) (hx : opd F x = some (.sl xs o)) (hi : opd F i = some (.sc (.int k q)))
    (ht : find tt.slc t = some (e, es, eb)) (h0 : 0 ≤ q) (hc : xs[q.toNat]? = some c) (hl : c.length = es) (hK : AOps P n ops rest (F.put dst (.ept c 0)) H K) : AOps P n ops (⟨dst, .indexAddr t x i, ty, pos, af, none⟩ :: rest) F H K :=
  AOps_cons (op_of_pures (pures_index_sl tk hx hi ht h0 hc hl) hd hK)
theorem s_indexa (tk : TTok tt P) {t : TypeId} {x i : Operand} {b off : Nat} {k : IntKind} {q : Int} {m e es : Nat} {ag : Bool} (hd : dstOk n dst = true) (hx : opd F x = some (.ptr b off)) (hi : opd F i = some (.sc (.int k q)))
    (ht : find tt.arr t = some (m, e)) (hs : find tt.size e = some (es, ag)) (h0 : 0 ≤ q) (h1 : q < m) (hK : AOps P n ops rest (F.put dst (.ptr b (off + q.toNat * es))) H K) : AOps P n ops (⟨dst, .indexAddr t x i, ty, pos, af, none⟩ :: rest) F H K :=
  AOps_cons (op_of_pures (pures_index_arr tk hx hi ht hs h0 h1) hd hK)
theorem s_indexr (tk : TTok tt P) {t : TypeId} {x i : Operand} {b off m cap : Nat} {k : IntKind} {q : Int} {e es eb : Nat} (hd : dstOk n dst = true) (hx : opd F x = some (.row b off m cap)) (hi : opd F i = some (.sc (.int k q)))
    (ht : find tt.slc t = some (e, es, eb)) (h0 : 0 ≤ q) (h1 : q < m) (hK : AOps P n ops rest (F.put dst (.ptr b (off + q.toNat * es))) H K) : AOps P n ops (⟨dst, .indexAddr t x i, ty, pos, af, none⟩ :: rest) F H K :=
  AOps_cons (op_of_pures (pures_index_row tk hx hi ht h0 h1) hd hK)
theorem s_build (tk : TTok tt P) {t : TypeId} {parts : Array (Nat × Operand)} {fs : List (Nat × Nat)} {zs : List Value} {cs out : List AVal} {r : List (Nat × AVal)} (hd : dstOk n dst = true) (hfs : find tt.flds t = some fs) (hz : find tt.zero t = some zs) (hc : absL zs = some cs)
    (hr : partsA F parts.toList = some r) (ho : fillA tt fs cs r = some out) (hK : AOps P n ops rest (F.put dst (.agg out)) H K) : AOps P n ops (⟨dst, .build t parts, ty, pos, af, none⟩ :: rest) F H K :=
  AOps_cons (op_of_pures (pures_build tk hfs hz hc hr ho) hd hK)
theorem s_append (tk : TTok tt P) (hd : dstOk n dst = true) {t t2 : TypeId} {x y : Operand} {xs ys : List (List AVal)} {o o2 : Own} {e es eb : Nat} {e2 : Nat × Nat × Nat} (hx : opd F x = some (.sl xs o)) (hy : opd F y = some (.sl ys o2))
    (ht : find tt.slc t = some (e, es, eb)) (ht2 : find tt.slc t2 = some e2) (hux : Uni es xs) (huy : Uni es ys) (hfl : flatA ys.flatten = true) (hown : Owned H o) (hoe : ownEs es o) (hlen : (xs.length + ys.length) * eb ≤ 140737488355328)
    (hK : ∀ o', Apart (H.free o) o' → ownEs es o' → AOps P n ops rest (F.put dst (.sl (xs ++ ys) o')) ((H.free o).own o') K) :
    AOps P n ops (⟨dst, .call { callee := .builtin .append, args := #[x, y], argTypes := #[t, t2] }, ty, pos, af, none⟩ :: rest) F H K := AOps_cons (op_append tk hd hx hy ht ht2 hux huy hfl hown hoe hlen hK)
end
end Abs
end Go.Proofs.Ytbldnaflffmddaa

set_option linter.unusedVariables false
namespace Go.Proofs.Ytbldnaflffmddaa
namespace Abs

/-! ### Statements whose order is open -/
def onlyN (Kc : Act → World → Prop) : Exit → Act → World → Prop
  | .normal, a, w => Kc a w
  | _, _, _ => False
def reach (g : Ghost) (w : World) : World → Prop := fun w' => ∃ g', Ext g w g' w'

def AAny (P : Program) (n : Nat) (ops : Array Oper) (fuel : Nat) (listed : Array Bool) (F : Fr) (H : AHeap) (K : APost) : Prop :=
  ∀ g a w (Kc : Act → World → Prop), Inv g w H → FR g w n F a →
    (∀ g' a' w' F' H', Ext g w g' w' → Inv g' w' H' → FR g' w' n F' a' → K F' H' → Kc a' w') → wpAnyH P .any ops (onlyN Kc) (reach g w) fuel listed a w

theorem wpAnyH_weak {P : Program} {md : Region.Mode} {ops : Array Oper} {Q : Exit → Act → World → Prop} {S S' : World → Prop} (h : ∀ w, S w → S' w) : ∀ (fuel : Nat) (listed : Array Bool) (a : Act) (w : World), wpAnyH P md ops Q S fuel listed a w → wpAnyH P md ops Q S' fuel listed a w
  | 0, _, _, _, k => k
  | fuel + 1, _, _, _, k => ⟨k.1, fun i hi => wpOp_mono (fun a' w' k' => ⟨h _ k'.1, wpAnyH_weak h fuel _ a' w' k'.2⟩) (k.2 i hi)⟩

/-- What an operation that reads what nobody writes leaves in its slot. -/
def Stab (P : Program) (n : Nat) (o : Oper) (F : Fr) (H : AHeap) (v : AVal) : Prop :=
  ∀ g a w, Inv g w H → FR g w n F a → ∃ cv, (∀ g' w', Ext g w g' w' → (execOp a.eval o).run P w' = .ok (.value cv) w') ∧ VR g w v cv

theorem Oper.wp_only {P : Program} {o : Oper} {a : Act} {w : World} {K : Act → World → Prop} {Q Q' : Exit → Act → World → Prop} (hp : ∀ c a w, ¬ Q (.panic c) a w) (ho : ∀ a w, ¬ Q .outgrown a w) (h : o.wp P a w K Q) : o.wp P a w K Q' := by
  unfold Oper.wp at *
  generalize (execOp a.eval o).run P w = r at *
  cases r with
  | ok x w' =>
    cases x <;> simp only [Oper.upon] at h ⊢ <;> first
      | exact h
      | exact Calls.mono h (fun e w'' he => by cases e <;> first | exact he | exact absurd he (hp _ _ _) | (obtain ⟨a0, w0, h0⟩ := he; exact absurd h0 (ho _ _)))
  | halt x w' => cases x <;> simp only [Oper.upon] at h ⊢ <;> exact absurd h (hp _ _ _)

section
variable {P : Program} {tt : TT} {n : Nat} {ops : Array Oper} {F : Fr} {H : AHeap} {dst : Option Tmp} {ty : TypeId} {pos : String} {af : Array Edge} {gd : Option (Nat × Bool)} {K : APost} {fuel : Nat} {listed : Array Bool}

theorem Pures.stab {o : Oper} {v : AVal} (h : Pures P n o F v) : Stab P n o F H v := fun g a w hi hf => let ⟨cv, h1, h2⟩ := h g a w hf; ⟨cv, fun g' w' _ => h1 w', h2⟩
theorem stab_ro_sc (tk : TTok tt P) {t : TypeId} {x : Operand} {b off k : Nat} {cs : List AVal} {v : AVal} (hx : opd F x = some (.ptr b off)) (hH : H b = some (.ro cs)) (ht : find tt.size t = some (k, false)) (hv : cs[off]? = some v) :
    Stab P n ⟨dst, .load t x, ty, pos, af, gd⟩ F H v := fun g a w hi hf => by
  have hp := (hf.opd hx).eq_ptr
  obtain ⟨i, d, hti, hk, hd, ha⟩ := tk.size ht
  obtain ⟨hbase, ⟨hlim, hpr⟩, _⟩ := hi.obj b _ hH
  obtain ⟨c, el, hb, hvs⟩ := (hi.obj b _ hH).2.vrs'
  obtain ⟨cv, h1, h2⟩ := hvs.get hv
  refine ⟨cv, fun g' w' he => ?_, h2⟩
  have hc : w'.cell? ⟨b, off, none⟩ = some cv := by rw [cell_of_row w' b off c el _ ((he.same b hpr).trans hb)]; simpa using h1
  simp [execOp, Instr.loadAt, Instr.sureAddr, hp, run_load_sc hd ha hc]
theorem stab_ro_agg (tk : TTok tt P) {t : TypeId} {x : Operand} {b off k : Nat} {cs ds : List AVal} (hx : opd F x = some (.ptr b off)) (hH : H b = some (.ro cs)) (ht : find tt.size t = some (k, true)) (hl : off + k ≤ cs.length) (hds : (cs.drop off).take k = ds) :
    Stab P n ⟨dst, .load t x, ty, pos, af, gd⟩ F H (.agg ds) := fun g a w hi hf => by
  subst hds
  have hp := (hf.opd hx).eq_ptr
  obtain ⟨i, d, hti, hk, hd, ha⟩ := tk.size ht
  obtain ⟨hbase, ⟨hlim, hpr⟩, _⟩ := hi.obj b _ hH
  obtain ⟨c, el, hb, hvs⟩ := (hi.obj b _ hH).2.vrs'
  have hvs' := (hvs.drop off).take k
  have hlen := hvs.1
  refine ⟨.agg ((c.toList.drop off).take k).toArray, fun g' w' he => ?_, .agg hvs'.to_arr.arr.1 hvs'.to_arr.arr.2⟩
  have hc : ∀ j v, ((c.toList.drop off).take k)[j]? = some v → w'.cell? ((⟨b, off, none⟩ : Addr).add j) = some v := fun j v hv => by
    rw [add_plain, cell_of_row w' b _ c el _ ((he.same b hpr).trans hb)]
    rw [List.getElem?_take] at hv
    split at hv
    · simpa using hv
    · cases hv
  have := run_load_agg hd ha hti (a := ⟨b, off, none⟩) (cs := (c.toList.drop off).take k) (by simp at hlen ⊢; omega) hc
  simp [execOp, Instr.loadAt, Instr.sureAddr, hp, this]
theorem stab_ept_sc (tk : TTok tt P) {t : TypeId} {x : Operand} {c : List AVal} {off k : Nat} {v : AVal} (hx : opd F x = some (.ept c off)) (ht : find tt.size t = some (k, false)) (hv : c[off]? = some v) :
    Stab P n ⟨dst, .load t x, ty, pos, af, gd⟩ F H v := fun g a w hi hf => by
  have hp := hf.opd hx
  generalize hcv : a.eval x = cv0 at hp
  obtain ⟨i, d, hti, hk, hd, ha⟩ := tk.size ht
  obtain ⟨hj, rfl⟩ := List.getElem?_eq_some_iff.1 hv
  cases hp with
  | @ept _ _ b o cv h1 h2 h3 =>
    refine ⟨cv off, fun g' w' he => ?_, h3 off hj⟩
    have hc : w'.cell? ⟨b, o + off, none⟩ = some (cv off) := (he.cell h1 (by omega)).trans (h2 off hj)
    simp [execOp, Instr.loadAt, Instr.sureAddr, hcv, run_load_sc hd ha hc]
theorem stab_ept_agg (tk : TTok tt P) {t : TypeId} {x : Operand} {c ds : List AVal} {off k : Nat} (hx : opd F x = some (.ept c off)) (ht : find tt.size t = some (k, true)) (hl : off + k ≤ c.length) (hds : (c.drop off).take k = ds) :
    Stab P n ⟨dst, .load t x, ty, pos, af, gd⟩ F H (.agg ds) := fun g a w hi hf => by
  subst hds
  have hp := hf.opd hx
  generalize hcv : a.eval x = cv0 at hp
  obtain ⟨i, d, hti, hk, hd, ha⟩ := tk.size ht
  cases hp with
  | @ept _ _ b o cv h1 h2 h3 =>
    have hlen : ((List.range k).map fun j => cv (off + j)).length = i.size := by simp [hk]
    refine ⟨.agg ((List.range k).map fun j => cv (off + j)).toArray, fun g' w' he => ?_, ?_⟩
    · have := run_load_agg (w := w') hd ha hti (a := ⟨b, o + off, none⟩) hlen (fun j v hv => by
        rw [add_plain]
        obtain ⟨hj, rfl⟩ := List.getElem?_eq_some_iff.1 hv
        simp at hj
        have hc : w'.cell? ⟨b, o + (off + j), none⟩ = some (cv (off + j)) := (he.cell h1 (by omega)).trans (h2 (off + j) (by omega))
        rw [show o + off + j = o + (off + j) by omega, hc]
        simp)
      simp [execOp, Instr.loadAt, Instr.sureAddr, hcv] at this ⊢
      rw [this]
      rfl
    · refine .agg (by simp; omega) (fun j hj hj' => ?_)
      simp at hj hj'
      have := h3 (off + j) (by omega)
      simpa using this

/-- Operation i is taken first: it reads nothing that is written. -/
theorem a_take (i : Nat) {o : Oper} {v : AVal} (hi : ops[i]? = some o) (hc : (Region.noSelect ops && Region.free .any ops listed i && (Region.ready .any ops listed).contains i) = true) (hd : dstOk n o.dst = true) (hg : gval ops F o.guard = some true)
    (hs : Stab P n o F H v) (h : AAny P n ops fuel (listed.setIfInBounds i true) (F.put o.dst v) H K) : AAny P n ops (fuel + 1) listed F H K := fun g a w Kc hinv hfr hk => by
  simp only [Bool.and_eq_true] at hc
  obtain ⟨cv, h1, h2⟩ := hs g a w hinv hfr
  refine wpAnyH_take hi hc.1.1 hc.1.2 hc.2 (fun c a w x => x) (.inl ⟨wanted_of hfr hg, fun w' hw' => ?_⟩) ⟨g, Ext.refl _ _⟩ (h g _ w Kc hinv (hfr.put (dstOk_lt hd) h2) hk)
  obtain ⟨g', he⟩ := hw'
  exact h1 g' w' he
/-- Operation i is passed by: its guard says no. -/
theorem a_skip (i : Nat) {o : Oper} (hi : ops[i]? = some o) (hc : (Region.noSelect ops && Region.free .any ops listed i && (Region.ready .any ops listed).contains i) = true) (hd : dstOk n o.dst = true) (hg : gval ops F o.guard = some false)
    (h : AAny P n ops fuel (listed.setIfInBounds i true) (F.put o.dst (.tup [])) H K) : AAny P n ops (fuel + 1) listed F H K := fun g a w Kc hinv hfr hk => by
  simp only [Bool.and_eq_true] at hc
  exact wpAnyH_take hi hc.1.1 hc.1.2 hc.2 (fun c a w x => x) (.inr ⟨wanted_of hfr hg, rfl⟩) ⟨g, Ext.refl _ _⟩ (h g _ w Kc hinv (hfr.put (dstOk_lt hd) VR.undef) hk)
theorem wpOp_of_AOps {i : Nat} {o : Oper} (hi : ops[i]? = some o) (h : AOps P n ops [o] F H K) {g : Ghost} {a : Act} {w : World} {Q : Exit → Act → World → Prop} {Kc : Act → World → Prop} (hinv : Inv g w H) (hfr : FR g w n F a)
    (hk : ∀ g' a' w' F' H', Ext g w g' w' → Inv g' w' H' → FR g' w' n F' a' → K F' H' → Kc a' w') : wpOp P ops Q i Kc a w := by
  have := h g a w (onlyN Kc) hinv hfr hk
  unfold wpOp
  rw [hi]
  simp only
  unfold wpList at this
  split
  · rename_i hw
    rw [if_pos hw] at this
    rcases this with h1 | ⟨_, a0, w0, h0⟩
    · exact .inl (Oper.wp_only (Q := onlyN Kc) (fun c a w h => h) (fun a w h => h) h1)
    · exact h0.elim
  · rename_i hw
    rw [if_neg hw] at this
    exact this
theorem a_all {rs : List Nat} (hr : Region.ready .any ops listed = rs) (hne : rs.isEmpty = false) (h : ∀ i, i ∈ rs → ∃ o, ops[i]? = some o ∧ AOps P n ops [o] F H (fun F' H' => AAny P n ops fuel (listed.setIfInBounds i true) F' H' K)) : AAny P n ops (fuel + 1) listed F H K :=
  fun g a w Kc hinv hfr hk => by
    refine wpAnyH_all hr (by intro e; rw [e] at hne; cases hne) fun i hi => ?_
    obtain ⟨o, ho, hA⟩ := h i hi
    refine wpOp_of_AOps ho hA hinv hfr fun g1 a1 w1 F1 H1 e1 i1 f1 k1 => ⟨⟨g1, e1⟩, ?_⟩
    exact wpAnyH_weak (fun w2 ⟨g2, e2⟩ => ⟨g2, e1.trans e2⟩) _ _ _ _ (k1 g1 a1 w1 Kc i1 f1 fun g2 a2 w2 F2 H2 e2 i2 f2 k2 => hk g2 a2 w2 F2 H2 (e1.trans e2) i2 f2 k2)
theorem a_one (i : Nat) {o : Oper} (hr : Region.ready .any ops listed = [i]) (ho : ops[i]? = some o) (h : AOps P n ops [o] F H (fun F' H' => AAny P n ops fuel (listed.setIfInBounds i true) F' H' K)) : AAny P n ops (fuel + 1) listed F H K :=
  a_all hr rfl fun j hj => by
    have : j = i := by simpa using hj
    subst this
    exact ⟨o, ho, h⟩
theorem a_two (i j : Nat) {o p : Oper} (hr : Region.ready .any ops listed = [i, j]) (ho : ops[i]? = some o) (hp : ops[j]? = some p) (h : AOps P n ops [o] F H (fun F' H' => AAny P n ops fuel (listed.setIfInBounds i true) F' H' K))
    (h2 : AOps P n ops [p] F H (fun F' H' => AAny P n ops fuel (listed.setIfInBounds j true) F' H' K)) : AAny P n ops (fuel + 1) listed F H K :=
  a_all hr rfl fun k hk => by
    have : k = i ∨ k = j := by simpa using hk
    rcases this with rfl | rfl
    · exact ⟨o, ho, h⟩
    · exact ⟨p, hp, h2⟩
theorem a_done (hr : Region.ready .any ops listed = []) (h : K F H) : AAny P n ops fuel listed F H K := fun g a w Kc hi hf hk => wpAnyH_done hr (hk g a w F H (Ext.refl _ _) hi hf h) fuel
theorem AAny_sub {F' : Fr} {H' : AHeap} (h : AAny P n ops fuel listed F H K) (hF : F.sub F') (hH : H.sub H') : AAny P n ops fuel listed F' H' K :=
  fun g a w Kc hi hf hk => h g a w Kc (hi.sub hH) (hf.sub hF) hk

theorem aw_draw {id : Nat} {l : List Oper} {Q : AQ} (hm : P.follows .mixedOrders = true) (h : AAny P n l.toArray l.length (Array.replicate l.length false) F H (fun F' H' => Q .normal F' H')) : AW P n (.region id l.toArray true) F H Q := fun g a w Qc hi hf hk => by
  have h1 := h g a w.drew (fun a' w' => Qc .normal a' w') hi.drew (hf.mono (ext_drew g w)) fun g' a' w' F' H' he hi' hf' hK => hk _ g' a' w' F' H' ((ext_drew g w).trans he) hi' hf' hK
  refine wp_mono (wp_region_held (Q := onlyN (fun a' w' => Qc .normal a' w')) (S := reach g w.drew) (id := id) (a := a) (w := w) hm (by simpa using h1)) fun e a' w' hq => ?_
  cases e <;> first | exact hq | exact hq.elim

/-! ### protected for a while -/
def Ghost.prot (g : Ghost) (bs : List Nat) : Ghost := { g with pr := fun b => g.pr b ∨ b ∈ bs }
theorem VR.ghost {g g' : Ghost} (hb : g'.base = g.base) (hl : g'.lim = g.lim) {w : World} {v : AVal} {cv : Value} (h : VR g w v cv) : VR g' w v cv := by
  have himm : ∀ b e, g.imm b e → g'.imm b e := fun b e => by unfold Ghost.imm; rw [hb, hl]; exact id
  induction h with
  | sc hp => exact .sc hp
  | ptr => exact .ptr
  | ept cv hi hc _ ih => exact .ept cv (himm _ _ hi) hc ih
  | nil => exact .nil
  | nil' => exact .nil'
  | zero => exact .zero
  | zero' => exact .zero'
  | @sl xs own b o es cap cv h1 h2 h3 h4 h5 h6 h7 _ ih =>
    refine .sl cv h1 (himm _ _ h2) h3 h4 h5 ?_ h7 ih
    cases own with
    | no => trivial
    | full => exact h6
    | tok b' e' s' => exact ⟨h6.1, h6.2.1, h6.2.2.1, by rw [hb]; exact h6.2.2.2⟩
  | row => exact .row
  | clo h1 h2 _ _ ih1 ih2 => exact .clo h1 h2 ih1 ih2
  | agg h1 _ ih => exact .agg h1 ih
  | tup h1 _ ih => exact .tup h1 ih
  | mapv => exact .mapv
def roOf : HObj → HObj
  | .cells cs => .ro cs
  | o => o
def AHeap.prot (H : AHeap) (bs : List Nat) : AHeap := fun x => if x ∈ bs then (H x).map roOf else H x
def AHeap.back (H' H : AHeap) (bs : List Nat) : AHeap := fun x => if x ∈ bs then H x else H' x
/-- Each of some blocks is one of cells. -/
def allCells (H : AHeap) (bs : List Nat) : Prop := ∀ b, b ∈ bs → ∃ cs, Rd H b cs
theorem FR.ghost {g g' : Ghost} (hb : g'.base = g.base) (hl : g'.lim = g.lim) {w : World} {F : Fr} {a : Act} (h : FR g w n F a) : FR g' w n F a :=
  ⟨h.size, h.defers, fun t v ht => let ⟨cv, h1, h2⟩ := h.slot t v ht; ⟨cv, h1, h2.ghost hb hl⟩⟩

theorem inv_prot {g : Ghost} {w : World} {bs : List Nat} (hi : Inv g w H) (hb : allCells H bs) : Inv (g.prot bs) w (H.prot bs) := by
  refine ⟨hi.base_le, fun b hlt => ⟨(hi.fresh b hlt).1, fun hp => ?_⟩, fun b o ho => ?_⟩
  · rcases hp with hp | hp
    · exact (hi.fresh b hlt).2 hp
    · obtain ⟨cs, h⟩ := hb b hp
      have : b < w.heap.size := by rcases h with h | h <;> exact hi.lt h
      omega
  · simp only [AHeap.prot] at ho
    split at ho
    · rename_i hm
      obtain ⟨cs, h⟩ := hb b hm
      rcases h with h | h
      · rw [h] at ho
        cases ho
        obtain ⟨h0, ⟨h1, h2⟩, c, el, h3, h4, h5⟩ := hi.obj b _ h
        exact ⟨h0, ⟨h1, .inr hm⟩, c, el, h3, h4, fun j x y => (h5 j x y).ghost (by rfl) (by rfl)⟩
      · rw [h] at ho
        cases ho
        obtain ⟨h0, ⟨h1, h2⟩, c, el, h3, h4, h5⟩ := hi.obj b _ h
        exact ⟨h0, ⟨h1, .inl h2⟩, c, el, h3, h4, fun j x y => (h5 j x y).ghost (by rfl) (by rfl)⟩
    · rename_i hm
      have hok := hi.obj b o ho
      refine ⟨hok.1, ?_⟩
      have hnp : ∀ hp : ¬ g.pr b, ¬ (g.prot bs).pr b := fun hp h => h.elim hp hm
      cases o with
      | cells cs => obtain ⟨_, ⟨h1, h2⟩, c, el, h3, h4, h5⟩ := hok; exact ⟨⟨h1, hnp h2⟩, c, el, h3, h4, fun j x y => (h5 j x y).ghost (by rfl) (by rfl)⟩
      | ro cs => obtain ⟨_, ⟨h1, h2⟩, c, el, h3, h4, h5⟩ := hok; exact ⟨⟨h1, .inl h2⟩, c, el, h3, h4, fun j x y => (h5 j x y).ghost (by rfl) (by rfl)⟩
      | grow e => obtain ⟨_, ⟨h1, h2⟩, h3⟩ := hok; exact ⟨⟨h1, hnp h2⟩, h3⟩
      | amap es => obtain ⟨_, ⟨h1, h2⟩, c, el, h3, h4, h5⟩ := hok; exact ⟨⟨h1, hnp h2⟩, c, el, h3, h4, fun j x y => ⟨(h5 j x y).1, (h5 j x y).2.ghost (by rfl) (by rfl)⟩⟩
      | iter s pos => obtain ⟨_, ⟨h1, h2⟩, h3⟩ := hok; exact ⟨⟨h1, hnp h2⟩, h3⟩
theorem ext_back {g gp : Ghost} {w w' : World} {bs : List Nat} (he : Ext (g.prot bs) w gp w') : Ext g w { gp with pr := g.pr } w' :=
  ⟨he.base, he.os, he.tape, he.output, he.size, he.old, he.lim, he.cells, he.shape, rfl, fun b hb => he.same b (.inl hb)⟩
theorem inv_back {g gp : Ghost} {w w' : World} {bs : List Nat} {H' : AHeap} (hi : Inv g w H) (hb : allCells H bs) (he : Ext (g.prot bs) w gp w') (hi' : Inv gp w' H') (hs : ∀ b, b ∈ bs → H' b = H.prot bs b) :
    Inv { gp with pr := g.pr } w' (H'.back H bs) := by
  have hpr : gp.pr = fun b => g.pr b ∨ b ∈ bs := he.pr
  refine ⟨hi'.base_le, fun b hlt => ⟨(hi'.fresh b hlt).1, fun hp => (hi'.fresh b hlt).2 (by rw [hpr]; exact .inl hp)⟩, fun b o ho => ?_⟩
  simp only [AHeap.back] at ho
  split at ho
  · rename_i hm
    have h1 := hs b hm
    simp only [AHeap.prot, if_pos hm, ho] at h1
    have hok := hi'.obj b _ h1
    have hold := hi.obj b o ho
    obtain ⟨cs, hrd⟩ := hb b hm
    refine ⟨hok.1, ?_⟩
    rcases hrd with hrd | hrd
    · rw [hrd] at ho
      cases ho
      obtain ⟨_, ⟨q1, q2⟩, _⟩ := hold
      obtain ⟨_, ⟨p1, p2⟩, c, el, p3, p4, p5⟩ := hok
      exact ⟨⟨p1, q2⟩, c, el, p3, p4, fun j x y => (p5 j x y).ghost (by rfl) (by rfl)⟩
    · rw [hrd] at ho
      cases ho
      obtain ⟨_, ⟨q1, q2⟩, _⟩ := hold
      obtain ⟨_, ⟨p1, p2⟩, c, el, p3, p4, p5⟩ := hok
      exact ⟨⟨p1, q2⟩, c, el, p3, p4, fun j x y => (p5 j x y).ghost (by rfl) (by rfl)⟩
  · rename_i hm
    have hok := hi'.obj b o ho
    refine ⟨hok.1, ?_⟩
    have hnp : ¬ gp.pr b → ¬ g.pr b := fun hp h => hp (by rw [hpr]; exact .inl h)
    have hyp : gp.pr b → g.pr b := fun hp => by rw [hpr] at hp; exact hp.resolve_right hm
    cases o with
    | cells cs => obtain ⟨_, ⟨h1, h2⟩, c, el, h3, h4, h5⟩ := hok; exact ⟨⟨h1, hnp h2⟩, c, el, h3, h4, fun j x y => (h5 j x y).ghost (by rfl) (by rfl)⟩
    | ro cs => obtain ⟨_, ⟨h1, h2⟩, c, el, h3, h4, h5⟩ := hok; exact ⟨⟨h1, hyp h2⟩, c, el, h3, h4, fun j x y => (h5 j x y).ghost (by rfl) (by rfl)⟩
    | grow e => obtain ⟨_, ⟨h1, h2⟩, h3⟩ := hok; exact ⟨⟨h1, hnp h2⟩, h3⟩
    | amap es => obtain ⟨_, ⟨h1, h2⟩, c, el, h3, h4, h5⟩ := hok; exact ⟨⟨h1, hnp h2⟩, c, el, h3, h4, fun j x y => ⟨(h5 j x y).1, (h5 j x y).2.ghost (by rfl) (by rfl)⟩⟩
    | iter s pos => obtain ⟨_, ⟨h1, h2⟩, h3⟩ := hok; exact ⟨⟨h1, hnp h2⟩, h3⟩
/-- While a statement runs, some blocks are read alone. -/
theorem aw_prot {c : Code} {Q : AQ} (bs : List Nat) (hb : allCells H bs) (h : AW P n c F (H.prot bs) (fun e F' H' => (∀ b, b ∈ bs → H' b = H.prot bs b) ∧ Q e F' (H'.back H bs))) : AW P n c F H Q := fun g a w Qc hi hf hk =>
  h (g.prot bs) a w Qc (inv_prot hi hb) (hf.ghost (by rfl) (by rfl)) fun e gp a' w' F' H' he hi' hf' hq =>
    hk e { gp with pr := g.pr } a' w' F' (H'.back H bs) (ext_back he) (inv_back hi hb he hi' hq.1) (hf'.ghost (by rfl) (by rfl)) hq.2
end
end Abs
end Go.Proofs.Ytbldnaflffmddaa

set_option linter.unusedVariables false
namespace Go.Proofs.Ytbldnaflffmddaa
namespace Abs

section
variable {P : Program} {tt : TT} {n : Nat} {ops : Array Oper} {rest : List Oper} {F : Fr} {H : AHeap} {dst : Option Tmp} {ty : TypeId} {pos : String} {af : Array Edge} {K : APost}

theorem equal_slice {t e : TypeId} (hu : P.underlying t = some (.slice e)) (a : Option Addr) (m c : Nat) (w : World) : (Op.equal t (.slice a m c) (.slice none 0 0)).run P w = .ok a.isNone w := by
  have h : ∀ d, (Op.equalIn (d + 1) t (.slice a m c) (.slice none 0 0)).run P w = .ok a.isNone w := fun d => by
    cases a <;> simp [Op.equalIn, run_underlying hu] <;> rfl
  exact h 9999
theorem VR.sl_form {g : Ghost} {w : World} {xs : List (List AVal)} {o : Own} {cv : Value} (hv : VR g w (.sl xs o) cv) : ∃ ad m c, cv = .slice ad m c ∧ (ad.isNone = true → xs = []) := by
  cases hv with
  | nil => exact ⟨_, _, _, rfl, fun _ => rfl⟩
  | nil' => exact ⟨_, _, _, rfl, fun _ => rfl⟩
  | zero => exact ⟨_, _, _, rfl, fun _ => rfl⟩
  | zero' => exact ⟨_, _, _, rfl, fun _ => rfl⟩
  | sl _ _ _ _ _ _ _ _ _ => exact ⟨_, _, _, rfl, fun h => by cases h⟩
/-- s == nil: nobody knows, but a nil slice is empty. -/
theorem s_slnil (tk : TTok tt P) {t yt : TypeId} {x : Operand} {xs : List (List AVal)} {o : Own} {e : Nat × Nat × Nat} (hd : dstOk n dst = true) (hx : opd F x = some (.sl xs o)) (ht : find tt.slc t = some e)
    (hK : ∀ b : Bool, (b = true → xs = []) → AOps P n ops rest (F.put dst (.sc (.bool b))) H K) : AOps P n ops (⟨dst, .binOp .eql t x (.const (.slice none 0 0)) yt, ty, pos, af, none⟩ :: rest) F H K :=
  AOps_cons (op_of_value hd fun g a w hi hf => by
    obtain ⟨hu, _⟩ := tk.slc (e := e.1) (es := e.2.1) (eb := e.2.2) ht
    obtain ⟨ad, m, c, hcv, hnil⟩ := (hf.opd hx).sl_form
    refine ⟨.bool ad.isNone, w, g, .sc (.bool ad.isNone), H, ?_, Ext.refl _ _, hi, .sc trivial, hK _ hnil⟩
    show (do let v ← (do eqGuard .eql t x (.const (.slice none 0 0)) (a.eval x) (.slice none 0 0); binOp .eql t (a.eval x) (.slice none 0 0) : Sem Value); pure (Next.value v) : Sem Next).run P w = _
    rw [hcv]
    show (do let v ← (do pure PUnit.unit; pure (.bool (← Op.equal t (.slice ad m c) (.slice none 0 0))) : Sem Value); pure (Next.value v) : Sem Next).run P w = _
    simp [equal_slice hu])

theorem fill_rows {es : Nat} (hes : 0 < es) : ∀ {l : List (Nat × Value)} {k m : Nat} {cells : Array Value}, (∀ j (h : j < l.length), l[j].1 = k + j ∧ l[j].2.cells.size = es) → k + l.length ≤ m → cells.size = m * es →
    ∃ oc : Array Value, Instr.fill (fun i => some (i * es, es)) cells l = some oc ∧ oc.toList = cells.toList.take (k * es) ++ (l.map fun p => p.2.cells.toList).flatten ++ cells.toList.drop ((k + l.length) * es)
  | [], k, m, cells, _, hm, hc => ⟨cells, rfl, by simp⟩
  | (i, v) :: l, k, m, cells, hl, hm, hc => by
    have h0 := hl 0 (by simp)
    simp only [List.getElem_cons_zero, Nat.add_zero] at h0
    obtain ⟨rfl, hv⟩ := h0
    have hm1 : (i + 1) * es ≤ m * es := Nat.mul_le_mul_right _ (by simp at hm; omega)
    have hs : (i + 1) * es = i * es + es := Nat.succ_mul i es
    rw [fill_step (off := i * es) (sz := es) rfl hv (by omega)]
    obtain ⟨oc, h1, h2⟩ := fill_rows hes (l := l) (k := i + 1) (m := m) (cells := (cells.toList.take (i * es) ++ v.cells.toList ++ cells.toList.drop (i * es + es)).toArray) (fun j hj => by
      have := hl (j + 1) (by simpa using hj)
      simp only [List.getElem_cons_succ] at this
      exact ⟨by omega, this.2⟩) (by simp at hm ⊢; omega) (by simp [hv]; omega)
    refine ⟨oc, h1, ?_⟩
    rw [h2]
    have hvl : v.cells.toList.length = es := by simpa using hv
    have htl : (cells.toList.take (i * es)).length = i * es := by simp; omega
    have hpre : (cells.toList.take (i * es) ++ v.cells.toList ++ cells.toList.drop (i * es + es)).take ((i + 1) * es) = cells.toList.take (i * es) ++ v.cells.toList := List.take_left' (by simp only [List.length_append, htl, hvl]; omega)
    have hpost : (cells.toList.take (i * es) ++ v.cells.toList ++ cells.toList.drop (i * es + es)).drop ((i + 1 + l.length) * es) = cells.toList.drop ((i + (l.length + 1)) * es) := by
      have e1 : (i + 1 + l.length) * es = (cells.toList.take (i * es) ++ v.cells.toList).length + l.length * es := by
        simp only [List.length_append, htl, hvl]; rw [Nat.add_mul, hs]
      rw [e1, ← List.drop_drop, List.drop_left' rfl, List.drop_drop]
      congr 1
      rw [show i + (l.length + 1) = (i + 1) + l.length by omega, Nat.add_mul, hs]
    rw [List.toList_toArray, hpre, hpost]
    simp

/-- The parts' places: one behind the other. -/
def inRow : Nat → List (Nat × Operand) → Bool
  | _, [] => true
  | k, (i, _) :: l => Nat.beq i k && inRow (k + 1) l
/-- []T{a, b, ..} -/
theorem ObjOk.at {g : Ghost} {w w' : World} (he : Ext g w g w') {k : Nat} {p : HObj} (hk : w'.heap[k]? = w.heap[k]?) (h : ObjOk g w k p) : ObjOk g w' k p := by
  cases p with
  | cells cs =>
    obtain ⟨h1, c, el, h2, h3, h4⟩ := h
    exact ⟨h1, c, el, hk.trans h2, h3, fun j a b => (h4 j a b).mono he⟩
  | ro cs =>
    obtain ⟨h1, c, el, h2, h3, h4⟩ := h
    exact ⟨h1, c, el, hk.trans h2, h3, fun j a b => (h4 j a b).mono he⟩
  | grow e =>
    obtain ⟨h1, c, el, h2⟩ := h
    exact ⟨h1, c, el, hk.trans h2⟩
  | amap es =>
    obtain ⟨h1, c, el, h2, h3, h4⟩ := h
    exact ⟨h1, c, el, hk.trans h2, h3, fun j a b => ⟨(h4 j a b).1, (h4 j a b).2.mono he⟩⟩
  | iter s pos => exact ⟨h.1, hk.trans h.2⟩
theorem run_bslice (tk : TTok tt P) {t : TypeId} {len : Nat} {parts : Array (Nat × Operand)} {e es eb : Nat} {vs : List AVal} {rows : List (List AVal)} (ht : find tt.slc t = some (e, es, eb))
    (hp : inRow 0 parts.toList = true) (hvs : opds F (parts.toList.map (·.2)) = some vs) (hr : rowsOf vs = some rows) (hlen : rows.length = len) (hu : Uni es rows) (hsmall : len * es ≤ 16777216) {g : Ghost} {a : Act} {w : World} (hf : FR g w n F a) :
    0 < es ∧ ∃ oc : Array Value, VRs g w rows.flatten oc.toList ∧ (execOp a.eval ⟨dst, .buildSlice t len parts, ty, pos, af, none⟩).run P w = .ok (.value (.slice (some ⟨w.heap.size, 0, none⟩) rows.length rows.length)) (w.alloc (.cells oc e)) := by
  obtain ⟨hu', inf, z, hinf, hsz, hby, hes0, heb0, hz, hzs⟩ := tk.slc ht
  obtain ⟨l1, l2⟩ := hf.opds hvs
  have hinr : ∀ (l : List (Nat × Operand)) (k : Nat), inRow k l = true → ∀ j (h : j < l.length), l[j].1 = k + j := by
    intro l
    induction l with
    | nil => intro k _ j h; simp at h
    | cons p l ih =>
      intro k h j hj
      obtain ⟨i, x⟩ := p
      simp only [inRow, Bool.and_eq_true] at h
      have h1 := Nat.eq_of_beq_eq_true h.1
      cases j with
      | zero => simpa using h1
      | succ j => have := ih (k + 1) h.2 j (by simpa using hj); simp only [List.getElem_cons_succ]; omega
  have hrows : ∀ (vs : List AVal) (rows : List (List AVal)), rowsOf vs = some rows → rows.length = vs.length ∧ ∀ j (h : j < rows.length) (h' : j < vs.length), cellsOf vs[j] = some rows[j] := by
    intro vs
    induction vs with
    | nil => intro rows h; cases h; exact ⟨rfl, fun j h => absurd h (Nat.not_lt_zero _)⟩
    | cons v vs ih =>
      intro rows h
      simp only [rowsOf] at h
      split at h
      · rename_i x xs hx hxs
        cases h
        obtain ⟨q1, q2⟩ := ih xs hxs
        refine ⟨by simp [q1], fun j h h' => ?_⟩
        cases j with
        | zero => exact hx
        | succ j => exact q2 j (by simpa using h) (by simpa using h')
      · cases h
  obtain ⟨r1, r2⟩ := hrows vs rows hr
  have hpl : parts.toList.length = len := by simp at l1; simp; omega
  have hvr : ∀ j (h : j < rows.length) (h' : j < parts.toList.length), VRs g w rows[j] (a.eval parts.toList[j].2).cells.toList := fun j h h' => by
    have := l2 j (by omega) (by simpa using h')
    simp only [List.getElem_map] at this
    exact this.cellsOf (r2 j h (by omega))
  have hz0 : (Array.range (len * es)).map (z.cells[· % z.cells.size]!) = (Array.range (len * es)).map (z.cells[· % z.cells.size]!) := rfl
  obtain ⟨oc, o1, o2⟩ := fill_rows hes0 (l := parts.toList.map fun p => (p.1, a.eval p.2)) (k := 0) (m := len) (cells := (Array.range (len * es)).map (fun i => (if len * es = 0 then #[] else z.cells)[i % (if len * es = 0 then #[] else z.cells).size]!)) (fun j hj => by
    simp only [List.getElem_map]
    simp only [List.length_map] at hj
    have h1 := hinr parts.toList 0 hp j hj
    have h2 := (hvr j (by omega) hj).1
    have h3 := hu.get j (by omega)
    exact ⟨h1, by have h4 := Array.length_toList (xs := (a.eval parts.toList[j].2).cells); show (a.eval parts.toList[j].2).cells.size = es; omega⟩) (by simp only [List.length_map]; omega) (by simp)
  have hflat : VRs g w rows.flatten oc.toList := by
    have hdrop : oc.toList = ((parts.toList.map fun p => (p.1, a.eval p.2)).map fun p => p.2.cells.toList).flatten := by
      rw [o2]
      simp only [Nat.zero_mul, List.take_zero, List.nil_append, Nat.zero_add, List.length_map]
      rw [List.drop_of_length_le (by simp [hpl]), List.append_nil]
    rw [hdrop]
    have gen : ∀ (rows : List (List AVal)) (l : List (List Value)), rows.length = l.length → (∀ j (h : j < rows.length) (h' : j < l.length), VRs g w rows[j] l[j]) → VRs g w rows.flatten l.flatten := by
      intro rows
      induction rows with
      | nil => intro l h _; have : l = [] := List.eq_nil_of_length_eq_zero h.symm; subst this; exact .nil
      | cons x rows ih =>
        intro l h hj
        cases l with
        | nil => simp at h
        | cons y l =>
          simp only [List.flatten_cons]
          exact (hj 0 (by simp) (by simp)).append (ih l (by simpa using h) (fun j a b => hj (j + 1) (by simpa using a) (by simpa using b)))
    refine gen rows _ (by simp only [List.length_map]; omega) (fun j h h' => ?_)
    simp only [List.getElem_map]
    exact hvr j h (by simpa using h')
  refine ⟨hes0, oc, hflat, ?_⟩
  have hns : ¬ (16777216 < len * es) := by omega
  have o1' : ∀ zc : Array Value, zc = (if len * es = 0 then #[] else z.cells) → Instr.fill (fun i => some (i * es, es)) ((Array.range (len * es)).map (zc[· % zc.size]!)) (parts.map fun x => (x.1, a.eval x.2)).toList = some oc := by
    rintro _ rfl
    rw [Array.toList_map]; exact o1
  simp only [execOp, Instr.buildSlice, Sem.run_bind, run_underlying hu', Result.andThen_ok, run_sizeOf' hinf, hsz]
  rw [Sem.run_ite, if_neg (by simpa using hns)]
  by_cases h0 : len * es = 0
  · have o2' := o1' #[] (by rw [if_pos h0])
    rw [if_pos h0]
    simp only [Sem.run_bind, Sem.run_pure, Result.andThen_ok]
    rw [o2']
    simp [newRow, hlen]
  · have o2' := o1' z.cells (by rw [if_neg h0])
    rw [if_neg h0]
    simp only [Sem.run_bind, Sem.run_pure, Result.andThen_ok, run_zeroValue' hinf hz]
    rw [o2']
    simp [newRow, hlen]
theorem s_bslice (tk : TTok tt P) {t : TypeId} {len : Nat} {parts : Array (Nat × Operand)} {e es eb : Nat} {vs : List AVal} {rows : List (List AVal)} (hd : dstOk n dst = true) (ht : find tt.slc t = some (e, es, eb))
    (hp : inRow 0 parts.toList = true) (hvs : opds F (parts.toList.map (·.2)) = some vs) (hr : rowsOf vs = some rows) (hlen : rows.length = len) (hu : Uni es rows) (hsmall : len * es ≤ 16777216)
    (hK : AOps P n ops rest (F.put dst (.sl rows .full)) H K) : AOps P n ops (⟨dst, .buildSlice t len parts, ty, pos, af, none⟩ :: rest) F H K :=
  AOps_cons (op_of_value hd fun g a w hi hf => by
    obtain ⟨hes0, oc, hflat, hrun⟩ := run_bslice (dst := dst) (ty := ty) (pos := pos) (af := af) tk ht hp hvs hr hlen hu hsmall hf
    have hfr := hi.fresh _ (Nat.le_refl w.heap.size)
    have hext1 := ext_alloc hi.base_le hfr.1 hfr.2 (Obj.cells oc e)
    have hi1 : Inv g (w.alloc (.cells oc e)) H := ⟨by have := hi.base_le; simp; omega, fun k hk => hi.fresh k (by simp at hk; omega), fun k o hk => ⟨(hi.obj k o hk).1, (hi.obj k o hk).2.alloc hext1⟩⟩
    have hi2 := inv_seal (e := rows.length * es) hi1 (by omega) (by simp) (hi.none (Nat.le_refl _))
    have hext := hext1.trans (ext_seal (b := w.heap.size) (e := rows.length * es) (by omega))
    refine ⟨.slice (some ⟨w.heap.size, 0, none⟩) rows.length rows.length, _, _, .sl rows .full, H, hrun, hext, hi2, ?_, hK⟩
    · refine VR.sl_mk hes0 hu (hflat.mono hext) (fun j v hv => ?_) (by rw [Nat.zero_add]; exact imm_seal _ _ _) (Nat.le_refl _) ?_ ⟨e, oc.size, by unfold World.shape?; rw [heap_alloc_new], ?_⟩ rfl
      · rw [Nat.zero_add, cell_of_row _ _ j _ e (0, 0) (heap_alloc_new w _)]
        simpa using hv
      · have h4 : rows.length ≤ rows.length * es := Nat.le_mul_of_pos_right _ hes0
        simp only [maxLen]
        rw [hlen] at h4 ⊢
        omega
      · have h5 := hflat.1
        rw [hu.len, Array.length_toList] at h5
        exact Nat.le_of_eq (by rw [Nat.zero_add]; exact h5))
theorem flatten_single {α : Type} (f : α → AVal) : ∀ l : List α, (l.map fun c => [f c]).flatten = l.map f
  | [] => rfl
  | c :: l => by simp only [List.map_cons, List.flatten_cons, flatten_single f l]; rfl
end
end Abs
end Go.Proofs.Ytbldnaflffmddaa

set_option linter.unusedVariables false
namespace Go.Proofs.Ytbldnaflffmddaa
namespace Abs
/-! ### The walk's steps at this program, by short names -/
section
variable {P : Program} {n : Nat} {ops : Array Oper} {rest : List Oper} {F : Fr} {H : AHeap} {dst : Option Tmp} {ty : TypeId} {pos : String} {af : Array Edge} {K : APost} {Q : AQ}

theorem w1 {op : Op} {v : AVal} (hd : dstOk n dst = true) (h : pev ttab F op = some v) (hK : AOps Try.prog n ops rest (F.put dst v) H K) : AOps Try.prog n ops (⟨dst, op, ty, pos, af, none⟩ :: rest) F H K := s_pure tk hd h hK
theorem w2 {op : Op} {jw : Nat × Bool} (hg : gval ops F (some jw) = some true) (h : AOps P n ops (⟨dst, op, ty, pos, af, none⟩ :: rest) F H K) : AOps P n ops (⟨dst, op, ty, pos, af, some jw⟩ :: rest) F H K := s_yes hg h
theorem w3 {op : Op} {jw : Nat × Bool} (hd : dstOk n dst = true) (hg : gval ops F (some jw) = some false) (h : AOps P n ops rest (F.put dst (.tup [])) H K) : AOps P n ops (⟨dst, op, ty, pos, af, some jw⟩ :: rest) F H K := s_no hd hg h
theorem w4 (h : K F H) : AOps P n ops [] F H K := AOps_nil h
theorem w5 (h : K F H) : thenQ K Q .normal F H := h
theorem w6 {x y : Code} (h : AW P n x F H (thenQ (fun F' H' => AW P n y F' H' Q) Q)) : AW P n (.seq x y) F H Q := aw_seq h
theorem w7 {id : Nat} {l : List Oper} (h : AOps P n l.toArray l F H (fun F' H' => Q .normal F' H')) : AW P n (.region id l.toArray false) F H Q := aw_region h
theorem w8 {c : Operand} {x y : Code} (hc : opd F c = some (.sc (.bool true))) (h : AW P n x F H Q) : AW P n (.cond c x y) F H Q := aw_cond hc (fun _ => h) (fun e => by cases e)
theorem w9 {c : Operand} {x y : Code} (hc : opd F c = some (.sc (.bool false))) (h : AW P n y F H Q) : AW P n (.cond c x y) F H Q := aw_cond hc (fun e => by cases e) (fun _ => h)
theorem wa (h : Q .normal F H) : AW P n .skip F H Q := aw_skip h
theorem wb {id : Nat} {c : Code} (h : AW P n c F H (inBlk id Q)) : AW P n (.block id c) F H Q := aw_block h
theorem wc {id : Nat} (h : Q (.exit id) F H) : AW P n (.exit id) F H Q := aw_exit h
theorem wd (h : Q .ret F H) : AW P n .ret F H Q := aw_ret h
theorem we (h : Q .ret F H) : thenQ K Q .ret F H := h
theorem wf {id : Nat} (h : Q (.exit id) F H) : thenQ K Q (.exit id) F H := h
theorem wg {id : Nat} (h : Q .normal F H) : inBlk id Q .normal F H := h
theorem wh {id : Nat} (h : Q .normal F H) : inBlk id Q (.exit id) F H := by simp only [inBlk, if_true]; exact h
theorem wi {id id' : Nat} (hn : Nat.beq id' id = false) (h : Q (.exit id') F H) : inBlk id Q (.exit id') F H := by
  have : ¬ id' = id := fun e => by rw [e, Nat.beq_refl] at hn; cases hn
  simp only [inBlk, if_neg this]; exact h
theorem wj {id : Nat} (h : Q .ret F H) : inBlk id Q .ret F H := h
theorem wk {c : Code} (h : AW P n c F H (noGoto Q)) : AW P n (.scope c) F H Q := aw_scope h
theorem wl (h : Q .normal F H) : noGoto Q .normal F H := h
theorem wm (h : Q .ret F H) : noGoto Q .ret F H := h
theorem wn {id : Nat} (h : Q (.exit id) F H) : noGoto Q (.exit id) F H := h

/-! ### the end -/
section
variable {fn : Func} {R : AVal → AHeap → Prop} {H' : AHeap}
theorem rt0n (hr : fn.results = #[]) (hs : H'.sub H) (hK : R (.tup []) H') : retQ P fn n R .normal F H := ⟨_, res0 hr, _, _, .refl _, hs, hK⟩
theorem rt1 {t : Tmp} {v v' : AVal} (hr : fn.results = #[.tmp t]) (hv : F.get t = some v) (hw : Wk v v') (hs : H'.sub H) (hK : R v' H') : retQ P fn n R .ret F H := ⟨_, res1 hr (rvar_tmp hv), _, _, hw, hs, hK⟩
theorem rt1c {p : Tmp} {t : TypeId} {b k : Nat} {cs : List AVal} {v' : AVal} (hr : fn.results = #[.cell p t]) (hp : F.get p = some (.ptr b 0)) (hH : Rd H b cs) (ht : find ttab.size t = some (k, true)) (hl : cs.length = k) (hw : Wk (.agg cs) v') (hs : H'.sub H) (hK : R v' H') :
    retQ Try.prog fn n R .ret F H := ⟨_, res1 hr (rvar_agg tk hp hH ht hl), _, _, hw, hs, hK⟩
theorem rt2 {t u : Tmp} {v1 v2 v1' v2' : AVal} (hr : fn.results = #[.tmp t, .tmp u]) (h1 : F.get t = some v1) (h2 : F.get u = some v2) (hw : Wk (.tup [v1, v2]) (.tup [v1', v2'])) (hs : H'.sub H) (hK : R (.tup [v1', v2']) H') : retQ P fn n R .ret F H :=
  ⟨_, res2 hr (rvar_tmp h1) (rvar_tmp h2), _, _, hw, hs, hK⟩
theorem rt2c {p u : Tmp} {t : TypeId} {b k : Nat} {cs : List AVal} {v2 v1' v2' : AVal} (hr : fn.results = #[.cell p t, .tmp u]) (hp : F.get p = some (.ptr b 0)) (hH : Rd H b cs) (ht : find ttab.size t = some (k, true)) (hl : cs.length = k) (h2 : F.get u = some v2)
    (hw : Wk (.tup [.agg cs, v2]) (.tup [v1', v2'])) (hs : H'.sub H) (hK : R (.tup [v1', v2']) H') : retQ Try.prog fn n R .ret F H := ⟨_, res2 hr (rvar_agg tk hp hH ht hl) (rvar_tmp h2), _, _, hw, hs, hK⟩
end
end

theorem Wk.pair {a b a' b' : AVal} (h1 : Wk a a') (h2 : Wk b b') : Wk (.tup [a, b]) (.tup [a', b']) := .tup rfl (fun j h h' => match j with | 0 => h1 | 1 => h2)
theorem Wk.nil : Wk (.agg []) (.agg []) := .refl _
theorem Wk.cons {a b : AVal} {xs ys : List AVal} (h : Wk a b) (k : Wk (.agg xs) (.agg ys)) : Wk (.agg (a :: xs)) (.agg (b :: ys)) := by
  cases k with
  | refl => exact .agg rfl (fun j h1 h2 => by cases j with | zero => exact h | succ j => exact .refl _)
  | agg hl k => exact .agg (by simp [hl]) (fun j h1 h2 => by cases j with | zero => exact h | succ j => exact k j (by simpa using h1) (by simpa using h2))
/-- A block that nobody knew of is forgotten. -/
theorem sub_new {H H' : AHeap} {b : Nat} {o : HObj} (hb : H b = none) (h : H.sub H') : H.sub (H'.put b o) := AHeap.sub_put h o hb
theorem ne_of_get {H : AHeap} {b t : Nat} {o : HObj} (hb : H b = none) (ht : H t = some o) : t ≠ b := fun e => by rw [e, hb] at ht; cases ht
theorem put_none {H : AHeap} {b c : Nat} {o : HObj} (h : H.put b o c = none) : c ≠ b ∧ H c = none := by
  unfold AHeap.put at h
  split at h
  · cases h
  · rename_i hn; exact ⟨hn, h⟩
end Abs
end Go.Proofs.Ytbldnaflffmddaa

set_option linter.unusedVariables false
namespace Go.Proofs.Ytbldnaflffmddaa
namespace Abs

/-! ### Values of the program, as plain data -/
structure Ent where
  name : ByteArray
  node : Int
structure Node where
  kind : Int
  mode : Int
  uid : Int
  gid : Int
  data : ByteArray
  ents : List Ent
  target : ByteArray
structure Tab where
  room : Int
  nodes : List Node

abbrev AVal.i (n : Int) : AVal := .sc (.int .i64 n)
abbrev AVal.b (x : Bool) : AVal := .sc (.bool x)
abbrev AVal.s (x : ByteArray) : AVal := .sc (.string x)
abbrev AVal.nilp : AVal := .sc (.pointer none)

def encBytes (s : ByteArray) : List (List AVal) := s.data.toList.map fun c => [.sc (.int .u8 c.toNat)]
def encEnt (e : Ent) : List AVal := [.s e.name, .i e.node]
def encNode (n : Node) : List AVal := [.i n.kind, .i n.mode, .i n.uid, .i n.gid, .sl (encBytes n.data) .no, .sl (n.ents.map encEnt) .no, .s n.target]
def encTab (t : Tab) : List AVal := .i t.room :: (t.nodes.map encNode).flatten
def Node.zero : Node := ⟨0, 0, 0, 0, ⟨#[]⟩, [], ⟨#[]⟩⟩
def Node.small (n : Node) : Prop := n.data.size ≤ 1073741824 ∧ n.ents.length ≤ 1073741824
def Tab.wf (t : Tab) : Prop := t.nodes.length = 24 ∧ (1 ≤ t.room ∧ t.room ≤ 24) ∧ ∀ n ∈ t.nodes, n.small
def Tab.get (t : Tab) (i : Int) : Node := t.nodes.getD (i - 1).toNat Node.zero
/-- The node of a number; none: there is none. -/
def Tab.has (t : Tab) (i : Int) : Bool := decide (1 ≤ i) && decide (i ≤ t.room) && !decide ((t.nodes.getD (i - 1).toNat Node.zero).kind = 0)

theorem encTab_agg (t : Tab) (i : Nat) : ((encTab t).drop (1 + i * 7)).take 7 = match t.nodes[i]? with | some n => encNode n | none => [] := by
  rw [show 1 + i * 7 = (i * 7) + 1 by omega, encTab, List.drop_succ_cons]
  have h : ∀ (l : List Node) (i : Nat), (((l.map encNode).flatten).drop (i * 7)).take 7 = match l[i]? with | some n => encNode n | none => [] := by
    intro l
    induction l with
    | nil => intro i; simp
    | cons n l ih =>
      intro i
      have hn : (encNode n).length = 7 := rfl
      cases i with
      | zero => simp [hn]
      | succ i => rw [Nat.succ_mul, Nat.add_comm, List.map_cons, List.flatten_cons, ← hn, List.drop_length_add_append, hn, ih]; rfl
  exact h t.nodes i
theorem uni_ents (l : List Ent) : Uni 2 (l.map encEnt) := fun x hx => by
  obtain ⟨e, _, rfl⟩ := List.mem_map.1 hx; rfl
theorem uni_bytes (s : ByteArray) : Uni 1 (encBytes s) := fun x hx => by
  obtain ⟨e, _, rfl⟩ := List.mem_map.1 hx; rfl
theorem uni_nodes (l : List Node) : Uni 7 (l.map encNode) := fun x hx => by
  obtain ⟨e, _, rfl⟩ := List.mem_map.1 hx; rfl
theorem encTab_len (t : Tab) (h : t.nodes.length = 24) : (encTab t).length = 169 := by
  simp [encTab, (uni_nodes t.nodes).len, h]
theorem encTab_get (t : Tab) (i j : Nat) (hj : j < 7) : (encTab t)[1 + i * 7 + j]? = (t.nodes[i]?).bind fun n => (encNode n)[j]? := by
  rw [show 1 + i * 7 + j = (i * 7 + j) + 1 by omega, encTab, List.getElem?_cons_succ, (uni_nodes t.nodes).flat_get i j hj]
  simp
  cases t.nodes[i]? <;> rfl

end Abs
end Go.Proofs.Ytbldnaflffmddaa

set_option linter.unusedVariables false
namespace Go.Proofs.Ytbldnaflffmddaa
namespace Abs
set_option maxRecDepth 10000

theorem uni_nil (k : Nat) : Uni k [] := fun x h => by cases h
theorem sub_free {H : AHeap} {o o' : Own} (h : Apart (H.free o) o') (ho : o = .full) : H.sub ((H.free o).own o') := by
  subst ho
  cases o' with
  | no => exact h.elim
  | full => exact AHeap.sub_refl _
  | tok b e s => exact sub_new h (AHeap.sub_refl _)

theorem clone_bytes {xs : List (List AVal)} {o : Own} {H : AHeap} {K : AVal → AHeap → Prop} (hu : Uni 1 xs) (hf : flatA xs.flatten = true) (hl : xs.length * 1 ≤ 140737488355328) (hK : K (.sl xs .no) H) :
    ACalls Try.prog 61 [.sl xs o] H K := by
  refine acalls_body Try.func61 rfl rfl rfl ?_
  repeat (first | refine w1 rfl rfl ?_ | refine w2 rfl ?_ | refine w3 rfl rfl ?_ | refine w4 ?_ | refine w5 ?_ | refine w6 ?_ | refine w7 ?_ | refine w8 rfl ?_ | refine w9 rfl ?_ | refine wa ?_ | refine wd ?_ | refine we ?_ | refine wb ?_ | refine wc ?_ | refine wf ?_ | refine wg ?_ | refine wh ?_ | refine wi rfl ?_ | refine wj ?_ | refine wk ?_ | refine wl ?_ | refine wm ?_ | refine wn ?_)
  refine s_slnil tk rfl rfl rfl (fun b hb => ?_)
  repeat (first | refine w1 rfl rfl ?_ | refine w2 rfl ?_ | refine w3 rfl rfl ?_ | refine w4 ?_ | refine w5 ?_ | refine w6 ?_ | refine w7 ?_ | refine w8 rfl ?_ | refine w9 rfl ?_ | refine wa ?_ | refine wd ?_ | refine we ?_ | refine wb ?_ | refine wc ?_ | refine wf ?_ | refine wg ?_ | refine wh ?_ | refine wi rfl ?_ | refine wj ?_ | refine wk ?_ | refine wl ?_ | refine wm ?_ | refine wn ?_)
  refine aw_cond rfl (fun h => ?_) (fun h => ?_)
  · have := hb h
    subst this
    repeat (first | refine w1 rfl rfl ?_ | refine w2 rfl ?_ | refine w3 rfl rfl ?_ | refine w4 ?_ | refine w5 ?_ | refine w6 ?_ | refine w7 ?_ | refine w8 rfl ?_ | refine w9 rfl ?_ | refine wa ?_ | refine wd ?_ | refine we ?_ | refine wb ?_ | refine wc ?_ | refine wf ?_ | refine wg ?_ | refine wh ?_ | refine wi rfl ?_ | refine wj ?_ | refine wk ?_ | refine wl ?_ | refine wm ?_ | refine wn ?_)
    exact rt1 rfl rfl (.sl _ _) (AHeap.sub_refl _) hK
  · repeat (first | refine w1 rfl rfl ?_ | refine w2 rfl ?_ | refine w3 rfl rfl ?_ | refine w4 ?_ | refine w5 ?_ | refine w6 ?_ | refine w7 ?_ | refine w8 rfl ?_ | refine w9 rfl ?_ | refine wa ?_ | refine wd ?_ | refine we ?_ | refine wb ?_ | refine wc ?_ | refine wf ?_ | refine wg ?_ | refine wh ?_ | refine wi rfl ?_ | refine wj ?_ | refine wk ?_ | refine wl ?_ | refine wm ?_ | refine wn ?_)
    refine s_bslice tk rfl rfl rfl rfl rfl rfl (uni_nil _) (by decide) ?_
    repeat (first | refine w1 rfl rfl ?_ | refine w2 rfl ?_ | refine w3 rfl rfl ?_ | refine w4 ?_ | refine w5 ?_ | refine w6 ?_ | refine w7 ?_ | refine w8 rfl ?_ | refine w9 rfl ?_ | refine wa ?_ | refine wd ?_ | refine we ?_ | refine wb ?_ | refine wc ?_ | refine wf ?_ | refine wg ?_ | refine wh ?_ | refine wi rfl ?_ | refine wj ?_ | refine wk ?_ | refine wl ?_ | refine wm ?_ | refine wn ?_)
    refine s_append tk rfl rfl rfl rfl rfl (uni_nil _) hu hf trivial trivial (by simpa using hl) (fun o' h1 h2 => ?_)
    repeat (first | refine w1 rfl rfl ?_ | refine w2 rfl ?_ | refine w3 rfl rfl ?_ | refine w4 ?_ | refine w5 ?_ | refine w6 ?_ | refine w7 ?_ | refine w8 rfl ?_ | refine w9 rfl ?_ | refine wa ?_ | refine wd ?_ | refine we ?_ | refine wb ?_ | refine wc ?_ | refine wf ?_ | refine wg ?_ | refine wh ?_ | refine wi rfl ?_ | refine wj ?_ | refine wk ?_ | refine wl ?_ | refine wm ?_ | refine wn ?_)
    exact rt1 rfl rfl (.sl _ _) (sub_free h1 rfl) hK
theorem clone_ents {xs : List (List AVal)} {o : Own} {H : AHeap} {K : AVal → AHeap → Prop} (hu : Uni 2 xs) (hf : flatA xs.flatten = true) (hl : xs.length * 24 ≤ 140737488355328) (hK : K (.sl xs .no) H) :
    ACalls Try.prog 62 [.sl xs o] H K := by
  refine acalls_body Try.func62 rfl rfl rfl ?_
  repeat (first | refine w1 rfl rfl ?_ | refine w2 rfl ?_ | refine w3 rfl rfl ?_ | refine w4 ?_ | refine w5 ?_ | refine w6 ?_ | refine w7 ?_ | refine w8 rfl ?_ | refine w9 rfl ?_ | refine wa ?_ | refine wd ?_ | refine we ?_ | refine wb ?_ | refine wc ?_ | refine wf ?_ | refine wg ?_ | refine wh ?_ | refine wi rfl ?_ | refine wj ?_ | refine wk ?_ | refine wl ?_ | refine wm ?_ | refine wn ?_)
  refine s_slnil tk rfl rfl rfl (fun b hb => ?_)
  repeat (first | refine w1 rfl rfl ?_ | refine w2 rfl ?_ | refine w3 rfl rfl ?_ | refine w4 ?_ | refine w5 ?_ | refine w6 ?_ | refine w7 ?_ | refine w8 rfl ?_ | refine w9 rfl ?_ | refine wa ?_ | refine wd ?_ | refine we ?_ | refine wb ?_ | refine wc ?_ | refine wf ?_ | refine wg ?_ | refine wh ?_ | refine wi rfl ?_ | refine wj ?_ | refine wk ?_ | refine wl ?_ | refine wm ?_ | refine wn ?_)
  refine aw_cond rfl (fun h => ?_) (fun h => ?_)
  · have := hb h
    subst this
    repeat (first | refine w1 rfl rfl ?_ | refine w2 rfl ?_ | refine w3 rfl rfl ?_ | refine w4 ?_ | refine w5 ?_ | refine w6 ?_ | refine w7 ?_ | refine w8 rfl ?_ | refine w9 rfl ?_ | refine wa ?_ | refine wd ?_ | refine we ?_ | refine wb ?_ | refine wc ?_ | refine wf ?_ | refine wg ?_ | refine wh ?_ | refine wi rfl ?_ | refine wj ?_ | refine wk ?_ | refine wl ?_ | refine wm ?_ | refine wn ?_)
    exact rt1 rfl rfl (.sl _ _) (AHeap.sub_refl _) hK
  · repeat (first | refine w1 rfl rfl ?_ | refine w2 rfl ?_ | refine w3 rfl rfl ?_ | refine w4 ?_ | refine w5 ?_ | refine w6 ?_ | refine w7 ?_ | refine w8 rfl ?_ | refine w9 rfl ?_ | refine wa ?_ | refine wd ?_ | refine we ?_ | refine wb ?_ | refine wc ?_ | refine wf ?_ | refine wg ?_ | refine wh ?_ | refine wi rfl ?_ | refine wj ?_ | refine wk ?_ | refine wl ?_ | refine wm ?_ | refine wn ?_)
    refine s_bslice tk rfl rfl rfl rfl rfl rfl (uni_nil _) (by decide) ?_
    repeat (first | refine w1 rfl rfl ?_ | refine w2 rfl ?_ | refine w3 rfl rfl ?_ | refine w4 ?_ | refine w5 ?_ | refine w6 ?_ | refine w7 ?_ | refine w8 rfl ?_ | refine w9 rfl ?_ | refine wa ?_ | refine wd ?_ | refine we ?_ | refine wb ?_ | refine wc ?_ | refine wf ?_ | refine wg ?_ | refine wh ?_ | refine wi rfl ?_ | refine wj ?_ | refine wk ?_ | refine wl ?_ | refine wm ?_ | refine wn ?_)
    refine s_append tk rfl rfl rfl rfl rfl (uni_nil _) hu hf trivial trivial (by simpa using hl) (fun o' h1 h2 => ?_)
    repeat (first | refine w1 rfl rfl ?_ | refine w2 rfl ?_ | refine w3 rfl rfl ?_ | refine w4 ?_ | refine w5 ?_ | refine w6 ?_ | refine w7 ?_ | refine w8 rfl ?_ | refine w9 rfl ?_ | refine wa ?_ | refine wd ?_ | refine we ?_ | refine wb ?_ | refine wc ?_ | refine wf ?_ | refine wg ?_ | refine wh ?_ | refine wi rfl ?_ | refine wj ?_ | refine wk ?_ | refine wl ?_ | refine wm ?_ | refine wn ?_)
    exact rt1 rfl rfl (.sl _ _) (sub_free h1 rfl) hK
end Abs
end Go.Proofs.Ytbldnaflffmddaa
