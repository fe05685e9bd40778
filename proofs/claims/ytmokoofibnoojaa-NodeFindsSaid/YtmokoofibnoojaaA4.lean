import Derived.Test.YtmokoofibnoojaaA3
set_option linter.unusedVariables false
namespace Go.Proofs.Ytmokoofibnoojaa
namespace Abs
open Go.RowKit

def kindNo : IntKind → Nat
  | .i8 => 0 | .i16 => 1 | .i32 => 2 | .i64 => 3 | .u8 => 4 | .u16 => 5 | .u32 => 6 | .u64 => 7
theorem kindNo_eq {j k : IntKind} (h : Nat.beq (kindNo j) (kindNo k) = true) : j = k := by
  cases j <;> cases k <;> first | rfl | (cases h)

/-- Comparisons. -/
def bev (tt : TT) (op : BinOp) (t : TypeId) (x y : AVal) : Option AVal :=
  match x, y with
  | .sc (.int j a), .sc (.int k b) => bif Nat.beq (kindNo j) (kindNo k) then
      (match op with
      | .eql => some (.sc (.bool (decide (a = b))))
      | .neq => some (.sc (.bool (!decide (a = b))))
      | .lss => some (.sc (.bool (decide (a < b))))
      | .leq => some (.sc (.bool (decide (a ≤ b))))
      | .gtr => some (.sc (.bool (decide (b < a))))
      | .geq => some (.sc (.bool (decide (b ≤ a))))
      | _ => none) else none
  | .sc (.string a), .sc (.string b) => match op with
      | .eql => some (.sc (.bool (decide (a = b))))
      | .neq => some (.sc (.bool (!decide (a = b))))
      | .lss => some (.sc (.bool (Op.bytesLess a.toList b.toList)))
      | .gtr => some (.sc (.bool (!(Op.bytesLess a.toList b.toList || decide (a = b)))))
      | .leq => some (.sc (.bool (Op.bytesLess a.toList b.toList || decide (a = b))))
      | .geq => some (.sc (.bool (!Op.bytesLess a.toList b.toList)))
      | _ => none
  | .sc (.bool a), .sc (.bool b) => match op, find tt.bools t with
      | .eql, some _ => some (.sc (.bool (a == b)))
      | .neq, some _ => some (.sc (.bool (!(a == b))))
      | _, _ => none
  | .ptr _ _, .sc (.pointer none) => match op, find tt.ptrs t with
      | .eql, some _ => some (.sc (.bool false))
      | .neq, some _ => some (.sc (.bool true))
      | _, _ => none
  | .sc (.pointer none), .sc (.pointer none) => match op, find tt.ptrs t with
      | .eql, some _ => some (.sc (.bool true))
      | .neq, some _ => some (.sc (.bool false))
      | _, _ => none
  | _, _ => none

theorem ba_toList_inj {a b : ByteArray} (h : a.toList = b.toList) : a = b := by
  have h1 : a.data.toList = b.data.toList := by rw [← ByteArray.toList_eq, ← ByteArray.toList_eq]; exact h
  cases a; cases b
  simpa using h1
theorem ba_beq (a b : ByteArray) : (a.toList == b.toList) = decide (a = b) := by
  by_cases h : a = b
  · subst h; simp
  · have : ¬ a.toList = b.toList := fun e => h (ba_toList_inj e)
    simp [h, this]

theorem eql_bool {P : Program} {t : TypeId} (hu : P.underlying t = some .bool) (a b : Bool) (w : World) (ox oy : Operand) : ((do eqGuard .eql t ox oy (.bool a) (.bool b); binOp .eql t (.bool a) (.bool b) : Sem Value)).run P w = .ok (.bool (a == b)) w := by
  have h : ∀ d, (Op.equalIn (d + 1) t (.bool a) (.bool b)).run P w = .ok (a == b) w := fun d => by simp [Op.equalIn, run_underlying hu]
  show (do pure PUnit.unit; pure (.bool (← Op.equal t (.bool a) (.bool b))) : Sem Value).run P w = _
  have h2 : (Op.equal t (.bool a) (.bool b)).run P w = .ok (a == b) w := h 9999
  simp [h2]
theorem neq_bool {P : Program} {t : TypeId} (hu : P.underlying t = some .bool) (a b : Bool) (w : World) (ox oy : Operand) : ((do eqGuard .neq t ox oy (.bool a) (.bool b); binOp .neq t (.bool a) (.bool b) : Sem Value)).run P w = .ok (.bool (!(a == b))) w := by
  have h : ∀ d, (Op.equalIn (d + 1) t (.bool a) (.bool b)).run P w = .ok (a == b) w := fun d => by simp [Op.equalIn, run_underlying hu]
  show (do pure PUnit.unit; pure (.bool (!(← Op.equal t (.bool a) (.bool b)))) : Sem Value).run P w = _
  have h2 : (Op.equal t (.bool a) (.bool b)).run P w = .ok (a == b) w := h 9999
  simp [h2]
theorem equal_ptr {P : Program} {t e : TypeId} (hu : P.underlying t = some (.pointer e)) (a : Option Addr) (w : World) : (Op.equal t (.pointer a) (.pointer none)).run P w = .ok a.isNone w := by
  have h : ∀ d, (Op.equalIn (d + 1) t (.pointer a) (.pointer none)).run P w = .ok a.isNone w := fun d => by cases a <;> simp [Op.equalIn, run_underlying hu] <;> rfl
  exact h 9999
theorem eql_ptr {P : Program} {t e : TypeId} (hu : P.underlying t = some (.pointer e)) (a : Option Addr) (w : World) (ox oy : Operand) : ((do eqGuard .eql t ox oy (.pointer a) (.pointer none); binOp .eql t (.pointer a) (.pointer none) : Sem Value)).run P w = .ok (.bool a.isNone) w := by
  show (do pure PUnit.unit; pure (.bool (← Op.equal t (.pointer a) (.pointer none))) : Sem Value).run P w = _
  simp [equal_ptr hu]
theorem neq_ptr {P : Program} {t e : TypeId} (hu : P.underlying t = some (.pointer e)) (a : Option Addr) (w : World) (ox oy : Operand) : ((do eqGuard .neq t ox oy (.pointer a) (.pointer none); binOp .neq t (.pointer a) (.pointer none) : Sem Value)).run P w = .ok (.bool (!a.isNone)) w := by
  show (do pure PUnit.unit; pure (.bool (!(← Op.equal t (.pointer a) (.pointer none)))) : Sem Value).run P w = _
  simp [equal_ptr hu]

theorem bev_ok {P : Program} {tt : TT} (tk : TTok tt P) {op : BinOp} {t : TypeId} {x y v : AVal} (h : bev tt op t x y = some v) {g : Ghost} {w : World} {cx cy : Value} (hx : VR g w x cx) (hy : VR g w y cy) :
    ∃ cv, (∀ (ox oy : Operand) w', (do eqGuard op t ox oy cx cy; binOp op t cx cy : Sem Value).run P w' = .ok cv w') ∧ VR g w v cv := by
  unfold bev at h
  split at h
  · rename_i j a k b
    have := hx.eq_sc; subst this
    have := hy.eq_sc; subst this
    cases hk : Nat.beq (kindNo j) (kindNo k) with
    | false => rw [hk] at h; cases h
    | true =>
      rw [hk] at h
      have := kindNo_eq hk
      subst this
      cases op <;> simp only [cond_true, Option.some.injEq] at h <;> first | (cases h; done) | skip
      all_goals subst h
      · exact ⟨.bool (a == b), fun ox oy w' => by simp [eqGuard, binOp, Op.intCmp], .sc trivial⟩
      · exact ⟨.bool (a != b), fun ox oy w' => by simp [eqGuard, binOp, Op.intCmp], .sc trivial⟩
      all_goals exact ⟨_, fun ox oy w' => by simp [eqGuard, binOp, Op.intCmp], .sc trivial⟩
  · rename_i a b
    have := hx.eq_sc; subst this
    have := hy.eq_sc; subst this
    cases op <;> simp only [Option.some.injEq] at h <;> first | (cases h; done) | skip
    all_goals subst h
    all_goals exact ⟨_, fun ox oy w' => by simp [eqGuard, binOp, Op.stringOp, ba_beq], .sc trivial⟩
  · rename_i a b
    have := hx.eq_sc; subst this
    have := hy.eq_sc; subst this
    split at h
    · rename_i u hf
      cases h
      exact ⟨_, fun ox oy w' => eql_bool (tk.bools hf) a b w' ox oy, .sc trivial⟩
    · rename_i u hf
      cases h
      exact ⟨_, fun ox oy w' => neq_bool (tk.bools hf) a b w' ox oy, .sc trivial⟩
    · cases h
  · have := hx.eq_ptr; subst this
    have := hy.eq_sc; subst this
    split at h
    · rename_i u hf
      cases h
      obtain ⟨e, hu⟩ := tk.ptrs hf
      exact ⟨_, fun ox oy w' => eql_ptr hu _ w' ox oy, .sc trivial⟩
    · rename_i u hf
      cases h
      obtain ⟨e, hu⟩ := tk.ptrs hf
      exact ⟨_, fun ox oy w' => neq_ptr hu _ w' ox oy, .sc trivial⟩
    · cases h
  · have := hx.eq_sc; subst this
    have := hy.eq_sc; subst this
    split at h
    · rename_i u hf
      cases h
      obtain ⟨e, hu⟩ := tk.ptrs hf
      exact ⟨_, fun ox oy w' => eql_ptr hu _ w' ox oy, .sc trivial⟩
    · rename_i u hf
      cases h
      obtain ⟨e, hu⟩ := tk.ptrs hf
      exact ⟨_, fun ox oy w' => neq_ptr hu _ w' ox oy, .sc trivial⟩
    · cases h
  · cases h

def lenA (tt : TT) (t : TypeId) : AVal → Option AVal
  | .sl xs _ => match find tt.slc t with | some _ => some (.sc (.int .i64 xs.length)) | none => none
  | .row _ _ n _ => match find tt.slc t with | some _ => some (.sc (.int .i64 n)) | none => none
  | .sc (.string s) => match find tt.strs t with | some _ => some (.sc (.int .i64 s.size)) | none => none
  | _ => none

/-- What an operation comes to that touches no memory. -/
def pev (tt : TT) (F : Fr) : Op → Option AVal
  | .move x => opd F x
  | .assign x => opd F x
  | .pick c a b => match opd F c with
    | some (.sc (.bool true)) => opd F a
    | some (.sc (.bool false)) => opd F b
    | _ => none
  | .nilCheck x => match opd F x with
    | some (.ptr b o) => some (.ptr b o)
    | some (.ept c o) => some (.ept c o)
    | some (.clo f a b) => some (.clo f a b)
    | _ => none
  | .unOp .not _ x => match opd F x with
    | some (.sc (.bool b)) => some (.sc (.bool (!b)))
    | _ => none
  | .binOp op t x y _ => match opd F x, opd F y with
    | some a, some b => bev tt op t a b
    | _, _ => none
  | .fieldAddr s x f => match opd F x, find tt.flds s with
    | some (.ptr b o), some fs => match fs[f]? with | some (_, k) => some (.ptr b (o + k)) | none => none
    | some (.ept c o), some fs => match fs[f]? with | some (_, k) => some (.ept c (o + k)) | none => none
    | _, _ => none
  | .extract t i => match opd F t with
    | some (.tup xs) => xs[i]?
    | _ => none
  | .makeFunc (.func f) a b => match opds F a.toList, opds F b.toList with
    | some xs, some ys => some (.clo f xs ys)
    | _, _ => none
  | .call { callee := .builtin .len, args := xs, argTypes := ts } => match xs.toList, ts.toList with
    | [x], [t] => match opd F x with | some v => lenA tt t v | none => none
    | _, _ => none
  | .call { callee := .builtin .min, args := xs, .. } => match xs.toList with
    | [x, y] => match opd F x, opd F y with
      | some (.sc (.int j a)), some (.sc (.int k b)) => some (.sc (.int j (if b < a then b else a)))
      | _, _ => none
    | _ => none
  | .call { callee := .builtin .max, args := xs, .. } => match xs.toList with
    | [x, y] => match opd F x, opd F y with
      | some (.sc (.int j a)), some (.sc (.int k b)) => some (.sc (.int j (if b > a then b else a)))
      | _, _ => none
    | _ => none
  | _ => none

theorem VR.eq_tup {g : Ghost} {w : World} {xs : List AVal} {cv : Value} (h : VR g w (.tup xs) cv) : ∃ cs : Array Value, cv = .tuple cs ∧ VRs g w xs cs.toList := by
  cases h with | tup h1 h2 => exact ⟨_, rfl, .of_arr h1 h2⟩

section
variable {P : Program} {tt : TT} {n : Nat} {ops : Array Oper} {F : Fr} {H : AHeap} {dst : Option Tmp} {ty : TypeId} {pos : String} {af : Array Edge} {K : APost}

theorem pev_ok (tk : TTok tt P) {op : Op} {v : AVal} (h : pev tt F op = some v) : Pures P n ⟨dst, op, ty, pos, af, none⟩ F v := fun g a w hf => by
  unfold pev at h
  split at h
  · exact ⟨_, fun w' => by simp [execOp], hf.opd h⟩
  · exact ⟨_, fun w' => by simp [execOp], hf.opd h⟩
  · rename_i c x y
    split at h
    · rename_i hc
      have := (hf.opd hc).eq_sc
      exact ⟨_, fun w' => by simp [execOp, this, asBool], hf.opd h⟩
    · rename_i hc
      have := (hf.opd hc).eq_sc
      exact ⟨_, fun w' => by simp [execOp, this, asBool], hf.opd h⟩
    · cases h
  · rename_i x
    split at h
    · rename_i b o hc
      cases h
      have := (hf.opd hc).eq_ptr
      exact ⟨_, fun w' => by simp [execOp, this], .ptr⟩
    · rename_i c o hc
      cases h
      have hv := hf.opd hc
      generalize hcv : a.eval x = cv at hv
      refine ⟨cv, fun w' => ?_, hv⟩
      cases hv
      simp [execOp, hcv]
    · rename_i f p q hc
      cases h
      have hv := hf.opd hc
      generalize hcv : a.eval x = cv at hv
      refine ⟨cv, fun w' => ?_, hv⟩
      cases hv
      simp [execOp, hcv]
    · cases h
  · rename_i x
    split at h
    · rename_i b hc
      cases h
      have := (hf.opd hc).eq_sc
      exact ⟨_, fun w' => by simp [execOp, this, Op.unary], .sc trivial⟩
    · cases h
  · rename_i op t x y yt
    split at h
    · rename_i u u' hx hy
      obtain ⟨cv, h1, h2⟩ := bev_ok tk h (hf.opd hx) (hf.opd hy)
      refine ⟨cv, fun w' => ?_, h2⟩
      have := h1 x y w'
      simp only [execOp]
      rw [Sem.run_bind, this]
      rfl
    · cases h
  · rename_i s x f
    split at h
    · rename_i b o fs hx hs
      have := (hf.opd hx).eq_ptr
      obtain ⟨fds, h1, h2, h3⟩ := tk.flds hs
      subst h2
      split at h
      · rename_i t k hk
        cases h
        simp only [List.getElem?_map, Option.map_eq_some_iff] at hk
        obtain ⟨fd, hfd, he⟩ := hk
        cases he
        obtain ⟨i, hi, hne⟩ := h3 fd (List.mem_of_getElem? hfd)
        have hfd' : fds[f]? = some fd := by simpa using hfd
        refine ⟨_, fun w' => ?_, .ptr⟩
        simp [execOp, Instr.fieldAt, run_underlying h1, hfd', Instr.sureAddr, this, fieldPlace, run_sizeOf' hi, hne, add_plain]
      · cases h
    · rename_i c o fs hx hs
      have hv := hf.opd hx
      generalize hcv : a.eval x = cv at hv
      obtain ⟨fds, h1, h2, h3⟩ := tk.flds hs
      subst h2
      split at h
      · rename_i t k hk
        cases h
        simp only [List.getElem?_map, Option.map_eq_some_iff] at hk
        obtain ⟨fd, hfd, he⟩ := hk
        cases he
        obtain ⟨i, hi, hne⟩ := h3 fd (List.mem_of_getElem? hfd)
        have hfd' : fds[f]? = some fd := by simpa using hfd
        cases hv with
        | @ept _ _ b o' cv g1 g2 g3 =>
          refine ⟨.pointer (some ⟨b, o' + (o + fd.offset), none⟩), fun w' => ?_, .ept cv g1 g2 g3⟩
          simp [execOp, Instr.fieldAt, run_underlying h1, hfd', Instr.sureAddr, hcv, fieldPlace, run_sizeOf' hi, hne, add_plain, Nat.add_assoc]
      · cases h
    · cases h
  · rename_i t i
    split at h
    · rename_i xs hx
      obtain ⟨cs, h1, h2⟩ := (hf.opd hx).eq_tup
      obtain ⟨cv, h3, h4⟩ := h2.get h
      exact ⟨cv, fun w' => by simp at h3; simp [execOp, h1, Instr.extract, h3], h4⟩
    · cases h
  · rename_i f p q
    split at h
    · rename_i xs ys hx hy
      cases h
      obtain ⟨l1, v1⟩ := hf.opds hx
      obtain ⟨l2, v2⟩ := hf.opds hy
      refine ⟨.func (.func f) (p.map a.eval) (q.map a.eval), fun w' => by simp [execOp, Instr.makeFunc], .clo (by simpa using l1) (by simpa using l2) (fun j x y => ?_) (fun j x y => ?_)⟩
      · have := v1 j x (by simpa using y); simpa using this
      · have := v2 j x (by simpa using y); simpa using this
    · cases h
  · rename_i xs ts
    split at h
    · rename_i x t hxs hts
      have hxs' : xs = #[x] := by cases xs; simp at hxs; simp [hxs]
      have hts' : ts = #[t] := by cases ts; simp at hts; simp [hts]
      subst hxs' hts'
      split at h
      · rename_i u hx
        have hv := hf.opd hx
        generalize hcv : a.eval x = cv at hv
        unfold lenA at h
        split at h
        · rename_i ys o
          split at h
          · rename_i p hp
            cases h
            obtain ⟨hu, _⟩ := tk.slc (e := p.1) (es := p.2.1) (eb := p.2.2) hp
            cases hv <;> exact ⟨_, fun w' => by simp [execOp, resolve, invoke, builtin, Builtin.len_, hcv, run_underlying hu, goInt], .sc trivial⟩
          · cases h
        · split at h
          · rename_i p hp
            cases h
            obtain ⟨hu, _⟩ := tk.slc (e := p.1) (es := p.2.1) (eb := p.2.2) hp
            cases hv
            exact ⟨_, fun w' => by simp [execOp, resolve, invoke, builtin, Builtin.len_, hcv, run_underlying hu, goInt], .sc trivial⟩
          · cases h
        · split at h
          · rename_i p hp
            cases h
            have hu := tk.strs hp
            have := hv.eq_sc
            subst this
            exact ⟨_, fun w' => by simp [execOp, resolve, invoke, builtin, Builtin.len_, hcv, run_underlying hu, goInt], .sc trivial⟩
          · cases h
        · cases h
      · cases h
    · cases h
  · rename_i xs ts
    split at h
    · rename_i x y hxs
      have hxs' : xs = #[x, y] := by cases xs; simp at hxs; simp [hxs]
      subst hxs'
      split at h
      · rename_i j p k q hx hy
        cases h
        have e1 := (hf.opd hx).eq_sc
        have e2 := (hf.opd hy).eq_sc
        exact ⟨_, fun w' => by simp [execOp, resolve, invoke, builtin, Builtin.min_, Builtin.min2, e1, e2], .sc trivial⟩
      · cases h
    · cases h
  · rename_i xs ts
    split at h
    · rename_i x y hxs
      have hxs' : xs = #[x, y] := by cases xs; simp at hxs; simp [hxs]
      subst hxs'
      split at h
      · rename_i j p k q hx hy
        cases h
        have e1 := (hf.opd hx).eq_sc
        have e2 := (hf.opd hy).eq_sc
        exact ⟨_, fun w' => by simp [execOp, resolve, invoke, builtin, Builtin.max_, Builtin.max2, e1, e2], .sc trivial⟩
      · cases h
    · cases h
  · cases h

theorem op_pure (tk : TTok tt P) {op : Op} {v : AVal} (hd : dstOk n dst = true) (h : pev tt F op = some v) (hK : K (F.put dst v) H) : AOp P n ops ⟨dst, op, ty, pos, af, none⟩ F H K :=
  op_of_reads hd (pev_ok tk h).reads hK

/-! ### arithmetic -/
theorem pures_arith {op : BinOp} {t yt : TypeId} {x y : Operand} {k : IntKind} {p q r : Int} (hx : opd F x = some (.sc (.int k p))) (hy : opd F y = some (.sc (.int k q)))
    (hr : (match op with | .add => some (k.wrap (p + q)) | .sub => some (k.wrap (p - q)) | .mul => some (k.wrap (p * q)) | _ => none) = some r) :
    Pures P n ⟨dst, .binOp op t x y yt, ty, pos, af, none⟩ F (.sc (.int k r)) := fun g a w hf => by
  have e1 := (hf.opd hx).eq_sc
  have e2 := (hf.opd hy).eq_sc
  refine ⟨_, fun w' => ?_, .sc trivial⟩
  cases op <;> simp only [Option.some.injEq] at hr <;> first | (cases hr; done) | skip
  all_goals subst hr
  all_goals simp [execOp, e1, e2, eqGuard, binOp, Op.intArith]
def bitsR (op : BinOp) (k : IntKind) (p q : Int) : Int :=
  k.wrap (match op with
  | .and => (BitVec.ofInt k.bits p &&& BitVec.ofInt k.bits q).toNat
  | .or => (BitVec.ofInt k.bits p ||| BitVec.ofInt k.bits q).toNat
  | .xor => (BitVec.ofInt k.bits p ^^^ BitVec.ofInt k.bits q).toNat
  | .andNot => (BitVec.ofInt k.bits p &&& ~~~BitVec.ofInt k.bits q).toNat
  | _ => 0)
def isBits : BinOp → Bool
  | .and | .or | .xor | .andNot => true
  | _ => false
theorem pures_bits {op : BinOp} {t yt : TypeId} {x y : Operand} {k : IntKind} {p q r : Int} (hx : opd F x = some (.sc (.int k p))) (hy : opd F y = some (.sc (.int k q)))
    (ho : isBits op = true) (hr : bitsR op k p q = r) : Pures P n ⟨dst, .binOp op t x y yt, ty, pos, af, none⟩ F (.sc (.int k r)) := fun g a w hf => by
  have e1 := (hf.opd hx).eq_sc
  have e2 := (hf.opd hy).eq_sc
  refine ⟨_, fun w' => ?_, .sc trivial⟩
  subst hr
  cases op <;> first | (cases ho; done) | skip
  all_goals simp [execOp, e1, e2, eqGuard, binOp, Op.intBits, bitsR]
theorem pures_cat {t yt : TypeId} {x y : Operand} {p q : ByteArray} (hx : opd F x = some (.sc (.string p))) (hy : opd F y = some (.sc (.string q))) (hl : p.size + q.size ≤ 9223372036854775807) :
    Pures P n ⟨dst, .binOp .add t x y yt, ty, pos, af, none⟩ F (.sc (.string (p ++ q))) := fun g a w hf => by
  have e1 := (hf.opd hx).eq_sc
  have e2 := (hf.opd hy).eq_sc
  refine ⟨_, fun w' => ?_, .sc trivial⟩
  have : ¬ (((p.size + q.size : Nat) : Int) > IntKind.i64.max) := by
    have : IntKind.i64.max = 9223372036854775807 := by decide
    omega
  simp only [execOp, e1, e2, eqGuard, binOp, Op.stringOp, Sem.run_bind, if_neg this]
  rfl
theorem pures_conv (tk : TTok tt P) {src d : TypeId} {x : Operand} {j k : IntKind} {p r : Int} {u : Unit} (hx : opd F x = some (.sc (.int j p))) (hs : find tt.ints src = some j) (hd : find tt.ints d = some k) (hr : k.wrap p = r) :
    Pures P n ⟨dst, .convert src d x, ty, pos, af, none⟩ F (.sc (.int k r)) := fun g a w hf => by
  have e1 := (hf.opd hx).eq_sc
  subst hr
  exact ⟨_, fun w' => by simp [execOp, convert, e1, run_underlying (tk.ints hs), run_underlying (tk.ints hd), Conv.intToInt], .sc trivial⟩
theorem pures_pick {c x y : Operand} {b p q : Bool} (hc : opd F c = some (.sc (.bool b))) (hx : opd F x = some (.sc (.bool p))) (hy : opd F y = some (.sc (.bool q))) :
    Pures P n ⟨dst, .pick c x y, ty, pos, af, none⟩ F (.sc (.bool (bif b then p else q))) := fun g a w hf => by
  have e1 := (hf.opd hc).eq_sc
  have e2 := (hf.opd hx).eq_sc
  have e3 := (hf.opd hy).eq_sc
  exact ⟨_, fun w' => by cases b <;> simp [execOp, e1, e2, e3, asBool] <;> rfl, .sc trivial⟩
theorem op_of_pures {op : Op} {v : AVal} (h : Pures P n ⟨dst, op, ty, pos, af, none⟩ F v) (hd : dstOk n dst = true) (hK : K (F.put dst v) H) : AOp P n ops ⟨dst, op, ty, pos, af, none⟩ F H K :=
  op_of_reads hd h.reads hK
end
end Abs
end Go.Proofs.Ytmokoofibnoojaa
