/-
  Own framework, part A: what code denotes over environments (slots as a function), as a predicate on worlds; its operations.
  Conditions: none; general over any program.
-/
import Derived.RangeFuncLeaves
import Derived.OrdersIn
import Derived.Laws.Sem
namespace Go.Dn
set_option linter.unusedSimpArgs false
set_option linter.unusedVariables false

abbrev W := World → Prop
abbrev Env := Nat → Value
def up (e : Env) (d : Nat) (v : Value) : Env := fun i => bif Nat.beq i d then v else e i
def upo (e : Env) (d : Option Tmp) (v : Value) : Env := match d with
  | some d => up e d v
  | none => e
def ev (e : Env) : Operand → Value
  | .tmp t => e t
  | .const v => v
  | .global g => .pointer (some ⟨g, 0, none⟩)
  | .func f => .func (.func f) #[] #[]
def envOf (args : List Value) : Env := fun i => args.getD i undef

/-- A piece of semantics that looks at the program alone. -/
def prun (P : Program) {α : Type} : Sem α → Option α
  | .pure a => some a
  | .program k => prun P (k P)
  | _ => none
theorem prun_run {P : Program} {α : Type} {s : Sem α} {a : α} (h : prun P s = some a) (w : World) : s.run P w = .ok a w := by
  induction s with
  | pure b => simp only [prun, Option.some.injEq] at h; subst h; rfl
  | program k ih => exact ih P h
  | _ => simp [prun] at h

/-- A pure operation. -/
def pu (P : Program) (s : Sem Value) (K : Value → W) : W := fun w => ∃ v, prun P s = some v ∧ K v w
/-- An operation that reads the world and leaves it. -/
def rd (P : Program) (s : Sem Value) (K : Value → W) : W := fun w => ∃ v, s.run P w = .ok v w ∧ K v w
/-- An operation that may change the world. -/
def ef (P : Program) (s : Sem Value) (K : Value → W) : W := fun w => ∃ v w', s.run P w = .ok v w' ∧ K v w'
def unitS (s : Sem Unit) : Sem Value := do s; pure undef
/-- What has been read would be read again. -/
def ck (P : Program) (g : Option (Value × Bool)) (s : Sem Value) (v : Value) : W := fun w =>
  (match g with
   | none => True
   | some (x, b) => x = .bool b) → s.run P w = .ok v w
def andW (c K : W) : W := fun w => c w ∧ K w
def both (a b : W) : W := fun w => a w ∧ b w
def ret1 (K : Value → W) : Ending → World → Prop
  | .returned v, w => K v w
  | _, _ => False
/-- Can the function be entered? -/
def enters (P : Program) (f : FuncId) : Bool := match P.funcs[f]? with
  | some fn => fn.name != "runtime.NumGoroutine" && fn.body.isSome
  | none => false
/-- The call of a function that has a body. -/
def callE (P : Program) (f : FuncId) (args : List Value) (K : Value → W) : W := fun w => enters P f = true ∧ Calls P f args.toArray w (ret1 K)
def callC (P : Program) (f : FuncId) (args : List Value) (K : Value → W) : W := fun w => (enters P f = true ∧ Calls P f args.toArray w (ret1 K)) ∨ ∃ v w', (callFunc f args.toArray).run P w = .ok (.value v) w' ∧ K v w'
/-- A range's record, and one of its rounds. -/
def roundC (P : Program) (l : Nat) (args : List Value) (K : Value → W) : W := fun w =>
  ∃ r : Loop, w.heap[l]? = some (.loop r) ∧ args.length = r.params.size ∧
    RoundIn Fence.wide 0 P l r.fn ((r.params.zip args.toArray).foldl (fun tmps (t, a) => tmps.setIfInBounds t a) r.tmps) r.assign r.body w (ret1 K)
/-- A call of a function value. -/
def callV (P : Program) (f : Value) (args : List Value) (K : Value → W) : W := match f with
  | .func (.func g) first captured => callC P g (first.toList ++ args ++ captured.toList) K
  | .func (.yield l) first _ => roundC P l (first.toList ++ args) K
  | _ => fun _ => False

inductive OpK where
  | val (v : Value)
  | pu (s : Sem Value)
  | rd (s : Sem Value)
  | ef (s : Sem Value)
  | callC (f : FuncId) (args : List Value)
  | callV (f : Value) (args : List Value)
  | bad
def OpK.run (P : Program) (k : OpK) (K : Value → W) : W := match k with
  | .val v => K v
  | .pu s => Dn.pu P s K
  | .rd s => Dn.rd P s K
  | .ef s => Dn.ef P s K
  | .callC f args => Dn.callC P f args K
  | .callV f args => Dn.callV P f args K
  | .bad => fun _ => False

def nilS (x : Value) : Sem Value := match x with
  | .pointer none => runtimePanic .nilDeref
  | .nilIface => runtimePanic .nilDeref
  | .nilFunc => runtimePanic .nilDeref
  | .func (.method _) _ _ => stuck "a method's value"
  | x => pure x
def pickS (c a b : Value) : Sem Value := do pure (if ← asBool c then a else b)
def cOp (c : Bool) : Operand := bif c then .const undef else .tmp 0
def eqS (op : BinOp) (t : TypeId) (cx cy : Bool) (a b : Value) : Sem Value := do eqGuard op t (cOp cx) (cOp cy) a b; binOp op t a b
def isC : Operand → Bool
  | .const _ => true
  | _ => false
/-- The built-in functions that are met. -/
def biK (b : Builtin) (argTypes : Array TypeId) (type : TypeId) (args : List Value) : OpK := match b with
  | .len => .rd (Builtin.len_ argTypes type args.toArray)
  | .cap => .rd (Builtin.cap_ argTypes type args.toArray)
  | .max => .pu (Builtin.max_ argTypes type args.toArray)
  | .min => .pu (Builtin.min_ argTypes type args.toArray)
  | .append => .ef (Builtin.append_ argTypes type args.toArray)
  | .copy => .ef (Builtin.copy_ argTypes type args.toArray)
  | .delete => .ef (Builtin.delete_ argTypes type args.toArray)
  | .clear => .ef (Builtin.clear_ argTypes type args.toArray)
  | _ => .bad
def mapE (e : Env) (l : List Operand) : List Value := l.map (ev e)
def mapP (e : Env) (l : List (Nat × Operand)) : List (Nat × Value) := l.map fun p => (p.1, ev e p.2)
def opK (e : Env) (o : Oper) : OpK := match o.op with
  | .move x => .val (ev e x)
  | .assign x => .val (ev e x)
  | .pick c a b => .pu (pickS (ev e c) (ev e a) (ev e b))
  | .alloc t => .ef (Instr.alloc t true (.tuple #[]))
  | .box t x => .ef (Instr.box t (ev e x))
  | .build t ps => .pu (Instr.build t (mapP e ps.toList).toArray)
  | .buildSlice t n ps => .ef (Instr.buildSlice t n (mapP e ps.toList).toArray)
  | .load t a => .rd (Instr.loadAt t (ev e a))
  | .store t a x => .ef (unitS (Instr.storeAt t (ev e a) (ev e x)))
  | .nilCheck x => .pu (nilS (ev e x))
  | .binOp op t x y _ => match op with
    | .eql => bif isC x || isC y then .pu (eqS .eql t (isC x) (isC y) (ev e x) (ev e y)) else .rd (eqS .eql t (isC x) (isC y) (ev e x) (ev e y))
    | .neq => bif isC x || isC y then .pu (eqS .neq t (isC x) (isC y) (ev e x) (ev e y)) else .rd (eqS .neq t (isC x) (isC y) (ev e x) (ev e y))
    | op => .pu (binOp op t (ev e x) (ev e y))
  | .unOp op _ x => .pu (Op.unary op (ev e x))
  | .convert s d x => .rd (convert s d (ev e x))
  | .sliceToArrayPointer t x => .pu (Instr.arrayAt t (ev e x))
  | .makeInterface t x => .ef (Instr.makeInterface t (ev e x))
  | .makeFunc fn a c => .pu (Instr.makeFunc fn (mapE e a.toList).toArray (mapE e c.toList).toArray)
  | .makeMap t r => .ef (Instr.makeMap t (r.map (ev e)))
  | .makeSlice t l c => .ef (Instr.makeSlice t (ev e l) (ev e c))
  | .slice t x l h m => .pu (Instr.sliceAt t (ev e x) (l.map (ev e)) (h.map (ev e)) (m.map (ev e)))
  | .fieldAddr t x f => .pu (Instr.fieldAt t (ev e x) f)
  | .field t x f => .pu (Instr.field t (ev e x) f)
  | .indexAddr t x i => .pu (Instr.indexAt t (ev e x) (ev e i))
  | .index t x i => .pu (Instr.index t (ev e x) (ev e i))
  | .lookup t x i ok => .rd (Instr.lookup t (ev e x) (ev e i) ok)
  | .mapUpdate t m k v => .ef (unitS (Instr.mapUpdate t (ev e m) (ev e k) (ev e v)))
  | .insert t m k v => .ef (unitS (Instr.mapUpdate t (ev e m) (ev e k) (ev e v)))
  | .mapEntry t m k => .ef (Instr.mapEntry t (ev e m) (ev e k))
  | .entryStore t m x v => .ef (unitS (Instr.entryStore t (ev e m) (ev e x) (ev e v)))
  | .entry i => .ef (Instr.entry (ev e i))
  | .typeAssert x t a ok => .pu (Instr.typeAssert (ev e x) t a ok)
  | .range t x => .ef (Instr.range t (ev e x))
  | .next i s => .ef (Instr.next (ev e i) s o.type)
  | .extract t i => .pu (Instr.extract (ev e t) i)
  | .call c => match c.callee with
    | .builtin b => biK b c.argTypes o.type (mapE e c.args.toList)
    | .value (.func f) => .callC f (mapE e c.args.toList)
    | .value f => .callV (ev e f) (mapE e c.args.toList)
    | .invoke _ _ => .bad
  | _ => .bad
/-- Does the operation leave the world alone? (Said of what 'opK' lets by.) -/
def isQ (o : Oper) : Bool := match o.op with
  | .move _ | .assign _ | .pick .. | .build .. | .load .. | .nilCheck _ | .binOp .. | .unOp .. | .convert .. | .sliceToArrayPointer .. | .makeFunc ..
  | .slice .. | .fieldAddr .. | .field .. | .indexAddr .. | .index .. | .lookup .. | .extract .. | .typeAssert .. => true
  | .call c => match c.callee with
    | .builtin .len | .builtin .cap | .builtin .max | .builtin .min => true
    | _ => false
  | _ => false

/-! ## An operation's soundness -/
/-- The fence that lets everything by, within a round or not. -/
def FR (ro : Option Nat) : Fence := { Fence.wide with round := ro }
theorem callsFR {ro : Option Nat} {P : Program} {f : FuncId} {args : Array Value} {w : World} {R : Ending → World → Prop} : CallsIn (FR ro) 0 P f args w R ↔ Calls P f args w R :=
  callsIn_wide (n := 0)
theorem roundFR {ro : Option Nat} {P : Program} {l f : Nat} {tmps : Array Value} {a b : Code} {w : World} {R : Ending → World → Prop} :
    RoundIn (FR ro) 0 P l f tmps a b w R ↔ RoundIn Fence.wide 0 P l f tmps a b w R := Iff.rfl

/-- The state's temporaries read as the environment. -/
structure Rep (N : Nat) (a : Act) (e : Env) : Prop where
  size : a.tmps.size = N
  get : ∀ i, a.tmps.getD i undef = e i
theorem Rep.eval {N : Nat} {a : Act} {e : Env} (h : Rep N a e) : a.eval = ev e := by
  funext x
  cases x with
  | tmp t => exact h.get t
  | _ => rfl
theorem Rep.put {N : Nat} {a : Act} {e : Env} (h : Rep N a e) {d : Option Tmp} (hd : ∀ x, d = some x → x < N) (v : Value) : Rep N (a.put d v) (upo e d v) := by
  cases d with
  | none => exact h
  | some d =>
    have hlt := hd d rfl
    refine ⟨by simp [Act.put, h.size], fun i => ?_⟩
    simp only [Act.put, upo, up]
    by_cases hi : i = d
    · subst hi; simp [h.size, hlt]
    · have hb : Nat.beq i d = false := by
        cases hh : Nat.beq i d with
        | false => rfl
        | true => exact absurd (Nat.eq_of_beq_eq_true hh) hi
      have := h.get i
      simp only [hb, cond_false]
      rw [← this]
      simp [Array.getD_eq_getD_getElem?, Array.getElem?_setIfInBounds_ne (Ne.symm hi)]

theorem mapA {α β : Type} (f : α → β) (xs : Array α) : xs.map f = (xs.toList.map f).toArray := by apply Array.ext'; simp
theorem run_value {P : Program} {s : Sem Value} {w w' : World} {v : Value} (h : s.run P w = .ok v w') :
    (do pure (Next.value (← s)) : Sem Next).run P w = .ok (.value v) w' := by
  simp [h]
theorem eqGuard_const {op : BinOp} {t : TypeId} (x y : Operand) (a b : Value) : eqGuard op t x y a b = eqGuard op t (cOp (isC x)) (cOp (isC y)) a b := by
  cases x <;> cases y <;> rfl
theorem eqGuard_none {op : BinOp} {t : TypeId} {x y : Operand} {a b : Value} (h : op ≠ .eql) (h' : op ≠ .neq) : eqGuard op t x y a b = pure () := by
  cases op <;> first | rfl | exact absurd rfl h | exact absurd rfl h'

/-- What an operation of a kind comes to. -/
def OpK.sem (P : Program) : OpK → World → Value → World → Prop
  | .val v, w, u, w' => u = v ∧ w' = w
  | .pu s, w, u, w' => prun P s = some u ∧ w' = w
  | .rd s, w, u, w' => s.run P w = .ok u w ∧ w' = w
  | .ef s, w, u, w' => s.run P w = .ok u w'
  | _, _, _, _ => False
/-- The operations that are no calls of functions: if the kind gives a value, so does the operation. -/
theorem opK_value {P : Program} {e : Env} {o : Oper} {w w' : World} {u : Value} (h : (opK e o).sem P w u w') :
    (execOp (ev e) o).run P w = .ok (.value u) w' ∨ ((execOp (ev e) o).run P w = .ok .skip w' ∧ u = undef) := by
  have hP : ∀ {s : Sem Value}, prun P s = some u → w' = w → s.run P w = .ok u w' := fun h1 h2 => h2 ▸ prun_run h1 w
  have hU : ∀ {s : Sem Unit}, (unitS s).run P w = .ok u w' → (do s; pure Next.skip : Sem Next).run P w = .ok .skip w' ∧ u = undef := by
    intro s hs
    simp only [unitS, Sem.run_bind, Sem.run_pure] at hs ⊢
    cases hr : s.run P w with
    | ok x w1 => rw [hr] at hs; simp only [Result.andThen] at hs ⊢; cases hs; exact ⟨rfl, rfl⟩
    | halt x w1 => rw [hr] at hs; simp [Result.andThen] at hs
  unfold opK at h
  unfold execOp
  cases ho : o.op <;> simp only [ho] at h ⊢ <;> first
    | exact h.elim
    | (obtain ⟨rfl, rfl⟩ := h; exact .inl rfl)
    | exact .inl (run_value (hP h.1 h.2))
    | exact .inl (run_value h)
    | exact .inl (run_value (h.2 ▸ h.1))
    | exact .inr (hU h)
    | skip
  case pick c a b =>
    obtain ⟨h1, rfl⟩ := h
    left
    cases hc : ev e c <;> simp only [hc, pickS, asBool, stuck, pure, bind, Sem.bind, prun] at h1 ⊢ <;> first | cases h1 | skip
    rfl
  case build t ps =>
    refine .inl (run_value ?_)
    have := hP h.1 h.2
    rw [← this]
    congr 2
    exact mapA _ _
  case buildSlice t n ps =>
    refine .inl (run_value ?_)
    rw [← h]
    congr 2
    exact mapA _ _
  case nilCheck x =>
    obtain ⟨h1, rfl⟩ := h
    left
    cases hx : ev e x <;> simp only [hx, nilS] at h1 ⊢ <;> try (simp only [pure, prun, Option.some.injEq] at h1; subst h1; rfl)
    case pointer a => cases a <;> simp only [nilS] at h1 ⊢ <;> first | (simp [runtimePanic, prun, goPanic, program, bind, Sem.bind] at h1; done) | (simp only [pure, prun, Option.some.injEq] at h1; subst h1; rfl)
    case func fn fi ca =>
      cases fn <;> simp only [nilS] at h1 ⊢ <;> first | (simp [stuck, prun] at h1; done) | (simp only [pure, prun, Option.some.injEq] at h1; subst h1; rfl)
    all_goals (simp [runtimePanic, prun, goPanic, program, bind, Sem.bind] at h1)
  case binOp op t x y ty =>
    left
    refine run_value ?_
    by_cases h1 : op = .eql
    · subst h1
      simp only at h
      rw [eqGuard_const x y]
      cases hc : (isC x || isC y) <;> simp only [hc, cond_true, cond_false] at h
      · exact h.2 ▸ h.1
      · exact hP h.1 h.2
    · by_cases h2 : op = .neq
      · subst h2
        simp only at h
        rw [eqGuard_const x y]
        cases hc : (isC x || isC y) <;> simp only [hc, cond_true, cond_false] at h
        · exact h.2 ▸ h.1
        · exact hP h.1 h.2
      · rw [eqGuard_none h1 h2]
        have h3 : prun P (binOp op t (ev e x) (ev e y)) = some u ∧ w' = w := by cases op <;> first | exact h | exact absurd rfl h1 | exact absurd rfl h2
        have := hP h3.1 h3.2
        simpa [pure] using this
  case makeFunc fn a c =>
    refine .inl (run_value ?_)
    have := hP h.1 h.2
    rw [← this]
    congr 2 <;> exact mapA _ _
  case call c =>
    left
    cases hcal : c.callee <;> simp only [hcal] at h
    case value f => cases f <;> simp only [OpK.sem] at h
    case invoke => exact h.elim
    case builtin b =>
      unfold resolve
      simp only [hcal]
      have hargs : c.args.map (ev e) = (mapE e c.args.toList).toArray := mapA _ _
      rw [hargs]
      cases b <;> simp only [biK, OpK.sem] at h <;> first
        | exact h.elim
        | (simp [invoke, builtin, hP h.1 h.2]; done)
        | (simp [invoke, builtin, h]; done)
        | (simp [invoke, builtin, h.1, h.2]; done)
end Go.Dn
