/-
  Own framework, part B: an operation's soundness; regions in the text's order; regions that draw their order.
  Conditions: none; general over any program.
-/
import Derived.Test.YtipjamgjgijeeaaDnA
namespace Go.Dn
set_option linter.unusedSimpArgs false
set_option linter.unusedVariables false
variable {P : Program} {ro : Option Nat}

theorem toArr_append (a b c : Array Value) (l : List Value) (h : b = l.toArray) : a ++ b ++ c = (a.toList ++ l ++ c.toList).toArray := by
  subst h; apply Array.ext'; simp
theorem toArr_append2 (a b : Array Value) (l : List Value) (h : b = l.toArray) : a ++ b = (a.toList ++ l).toArray := by
  subst h; apply Array.ext'; simp

theorem callFunc_run {f : FuncId} {args : Array Value} {w : World} (h : enters P f = true) : (callFunc f args).run P w = .ok (.enter f args) w := by
  unfold enters at h
  unfold callFunc
  cases hf : P.funcs[f]? with
  | none => simp [hf] at h
  | some fn =>
    simp only [hf, Bool.and_eq_true, bne_iff_ne, ne_eq] at h
    have h2 : fn.body.isNone = false := by cases hb : fn.body <;> simp_all
    have h3 : (fn.name == "runtime.NumGoroutine") = false := by simpa using h.1
    rw [Sem.run_bind, show Sem.run P program w = .ok P w from rfl]
    simp only [Result.andThen, hf]
    rw [if_neg (by rw [h3]; simp), if_neg (by rw [h2]; simp)]
    rfl

theorem callE_of {f : FuncId} {args : List Value} {K : Value → W} {w : World} (he : enters P f = true) (h : callC P f args K w) : callE P f args K w := by
  rcases h with h | ⟨v, w', h1, _⟩
  · exact h
  · rw [callFunc_run he] at h1; cases h1
class EnT (P : Program) (f : FuncId) : Prop where
  out : enters P f = true
/-- Whatever an operation of a kind may come to is what the operation comes to. -/
theorem op_sound {N : Nat} {a : Act} {e : Env} {o : Oper} {K : Value → W} {w : World} (hr : Rep N a e) (h : (opK e o).run P K w)
    (Q : Exit → Act → World → Prop) (next : Act → World → Prop) (hn : ∀ v w', K v w' → next (a.put o.dst v) w') : o.wpIn (FR ro) 0 P a w next Q := by
  refine ⟨fun _ _ => trivial, ?_⟩
  have hnd : ∀ c, o.op ≠ .defer c := by
    intro c hc
    simp only [opK, hc, OpK.run] at h
  rw [Oper.semAt_eq _ _ _ hnd, hr.eval]
  have val : ∀ {v w'}, (opK e o).sem P w v w' → K v w' → o.uponIn (FR ro) 0 P a next Q ((execOp (ev e) o).run P w) := by
    intro v w' hs hK
    rcases opK_value hs with h1 | ⟨h1, h2⟩
    · rw [h1]; exact hn _ _ hK
    · rw [h1]; subst h2; exact hn _ _ hK
  have call : ∀ {f : FuncId} {args : List Value} {w' : World}, (enters P f = true ∧ Calls P f args.toArray w' (ret1 K)) → (execOp (ev e) o).run P w = .ok (.enter f args.toArray) w' →
      o.uponIn (FR ro) 0 P a next Q ((execOp (ev e) o).run P w) := by
    intro f args w' hc hx
    rw [hx, Oper.uponIn_enter]
    refine ⟨fun hh => by simp [FR, Fence.wide] at hh, callsFR.2 (hc.2.mono fun e' w'' he => ?_)⟩
    cases e' with
    | returned v => exact hn _ _ he
    | panicked c => exact he.elim
    | outgrown => exact he.elim
  have callD : ∀ {f : FuncId} {args : List Value}, callC P f args K w → (execOp (ev e) o).run P w = (callFunc f args.toArray).run P w → o.uponIn (FR ro) 0 P a next Q ((execOp (ev e) o).run P w) := by
    intro f args hc hx
    rcases hc with hc | ⟨v, w', h1, h2⟩
    · exact call hc (by rw [hx, callFunc_run hc.1])
    · rw [hx, h1]
      exact hn _ _ h2
  cases hk : opK e o with
  | val v => rw [hk] at h; exact val (by rw [hk]; exact ⟨rfl, rfl⟩) h
  | pu s => rw [hk] at h; obtain ⟨v, h1, h2⟩ := h; exact val (by rw [hk]; exact ⟨h1, rfl⟩) h2
  | rd s => rw [hk] at h; obtain ⟨v, h1, h2⟩ := h; exact val (by rw [hk]; exact ⟨h1, rfl⟩) h2
  | ef s => rw [hk] at h; obtain ⟨v, w', h1, h2⟩ := h; exact val (by rw [hk]; exact h1) h2
  | bad => rw [hk] at h; exact h.elim
  | callC f args =>
    rw [hk] at h
    refine callD h ?_
    unfold opK at hk
    split at hk <;> try (cases hk; done)
    · rename_i op t x y ty ho
      split at hk
      · cases hc : (isC x || isC y) <;> rw [hc] at hk <;> cases hk
      · cases hc : (isC x || isC y) <;> rw [hc] at hk <;> cases hk
      · cases hk
    · rename_i c ho
      split at hk
      · rename_i b hb; cases b <;> cases hk
      · rename_i g hb
        cases hk
        unfold execOp resolve
        simp only [ho, hb, ev, Deferred.ofValue, Sem.run_bind, Sem.run_pure, Result.andThen, invoke]
        rw [mapA]
        congr 2
        apply Array.ext'; simp [mapE]
      · cases hk
      · cases hk
  | callV f args =>
    rw [hk] at h
    unfold opK at hk
    split at hk <;> try (cases hk; done)
    · rename_i op t x y ty ho
      split at hk
      · cases hc : (isC x || isC y) <;> rw [hc] at hk <;> cases hk
      · cases hc : (isC x || isC y) <;> rw [hc] at hk <;> cases hk
      · cases hk
    · rename_i c ho
      split at hk
      · rename_i b hb; cases b <;> cases hk
      · cases hk
      · rename_i g hg hb
        cases hk
        simp only [OpK.run] at h
        cases hv : ev e g <;> rw [hv] at h <;> try exact h.elim
        rename_i fn first captured
        cases fn <;> try exact h.elim
        · rename_i f
          simp only [callV] at h
          refine callD h ?_
          unfold execOp resolve
          simp only [ho, hb, hv, Deferred.ofValue, Sem.run_bind, Sem.run_pure, Result.andThen, invoke]
          rw [mapA, toArr_append _ _ _ _ rfl]
          rfl
        · rename_i l
          simp only [callV] at h
          obtain ⟨r, hl, hsz, hround⟩ := h
          have hx : (execOp (ev e) o).run P w = .ok (.round l r.fn ((r.params.zip (first.toList ++ mapE e c.args.toList).toArray).foldl (fun tmps (t, a) => tmps.setIfInBounds t a) r.tmps) r.assign r.body) w := by
            unfold execOp resolve
            simp only [ho, hb, hv, Deferred.ofValue, Sem.run_bind, Sem.run_pure, Result.andThen, invoke, Instr.yield, Instr.getLoop, getObj, Sem.run, hl]
            rw [mapA, toArr_append2 _ _ _ rfl]
            have : ¬ ((first.toList ++ mapE e c.args.toList).toArray.size ≠ r.params.size) := by simpa using hsz
            simp only [mapE] at this ⊢
            simp only [if_neg this, Sem.run_pure]
          rw [hx, Oper.uponIn_round]
          refine ⟨fun hh => by simp [FR, Fence.wide] at hh, roundFR.2 (hround.mono fun e' w'' he => ?_)⟩
          cases e' with
          | returned v => exact hn _ _ he
          | panicked c => exact he.elim
          | outgrown => exact he.elim
      · cases hk

/-! ## A region in the text's order -/
def isB (v : Value) (b : Bool) : Bool := match v with
  | .bool t => t == b
  | _ => false
def grd (v : Value) (b : Bool) (f : (Value → W) → W) (K : Value → W) : W := if isB v b = true then f K else K undef
/-- The slot that a guard looks at. -/
def gdst (ops : List Oper) (j : Nat) : Option Tmp := (ops[j]?).bind (·.dst)
def opG (P : Program) (all : List Oper) (o : Oper) (e : Env) (K : Value → W) : W := match o.guard with
  | none => (opK e o).run P K
  | some (g, b) => match gdst all g with
    | some d => grd (e d) b ((opK e o).run P) K
    | none => K undef
def denOps (P : Program) (all : List Oper) : List Oper → (Env → W) → Env → W
  | [], K, e => K e
  | o :: os, K, e => opG P all o e fun v => denOps P all os K (upo e o.dst v)

def gok (all : List Oper) (o : Oper) (e : Env) : Bool := match o.guard with
  | none => true
  | some (g, b) => match gdst all g with
    | some d => isB (e d) b
    | none => false
theorem opG_eq (all : List Oper) (o : Oper) (e : Env) (K : Value → W) : opG P all o e K = if gok all o e = true then (opK e o).run P K else K undef := by
  unfold opG gok
  cases o.guard with
  | none => simp
  | some gb =>
    obtain ⟨g, b⟩ := gb
    cases hd : gdst all g with
    | none => simp [hd]
    | some d => simp [hd, grd]
theorem wanted_rep {N : Nat} {a : Act} {e : Env} {ops : Array Oper} {o : Oper} (hr : Rep N a e) :
    Region.wanted o (yielded ops a.tmps) = gok ops.toList o e := by
  unfold Region.wanted gok
  cases o.guard with
  | none => rfl
  | some gb =>
    obtain ⟨g, b⟩ := gb
    simp only [yielded, gdst, Array.getElem?_toList]
    cases hd : (ops[g]?).bind (·.dst) with
    | none => simp
    | some d =>
      simp only [Option.bind_some]
      have := hr.get d
      rw [Array.getD_eq_getD_getElem?] at this
      cases ht : a.tmps[d]? with
      | none => rw [ht] at this; simp only [Option.getD_none] at this; rw [← this]; rfl
      | some v =>
        rw [ht] at this
        simp only [Option.getD_some] at this
        rw [← this]
        cases v <;> simp [isB] <;> rfl

/-- One operation, its guard looked at. -/
theorem opG_sound {N : Nat} {a : Act} {e : Env} {ops : Array Oper} {o : Oper} {K : Value → W} {w : World} (hr : Rep N a e) (h : opG P ops.toList o e K w)
    (Q : Exit → Act → World → Prop) (next : Act → World → Prop) (hn : ∀ v w', K v w' → next (a.put o.dst v) w') :
    if Region.wanted o (yielded ops a.tmps) then o.wpIn (FR ro) 0 P a w next Q else (∀ f, o.about P w a.eval = some f → (FR ro).fn f) ∧ next (a.put o.dst undef) w := by
  rw [wanted_rep hr]
  rw [opG_eq] at h
  by_cases hb : gok ops.toList o e = true
  · rw [if_pos hb] at h ⊢; exact op_sound hr h Q next hn
  · rw [if_neg hb] at h ⊢; exact ⟨fun _ _ => trivial, hn _ _ h⟩

/-- The slots that are written, as bits. -/
def omask (l : List Oper) : Nat := l.foldr (fun o m => match o.dst with
  | some d => Nat.lor (Nat.shiftLeft 1 d) m
  | none => m) 0
theorem omask_cons (o : Oper) (l : List Oper) (i : Nat) : (omask (o :: l)).testBit i = ((match o.dst with
    | some d => decide (d = i)
    | none => false) || (omask l).testBit i) := by
  simp only [omask, List.foldr_cons]
  cases o.dst with
  | none => simp
  | some d =>
    show (Nat.lor (1 <<< d) _).testBit i = _
    show ((1 <<< d) ||| _).testBit i = _
    rw [Nat.testBit_or]
    congr 1
    rw [Nat.testBit_shiftLeft]
    by_cases h : d = i
    · subst h; simp
    · have h1 : (1 : Nat).testBit (i - d) = decide (i - d = 0) := by
        rw [show (1 : Nat) = 2 ^ 0 from rfl, Nat.testBit_two_pow]
        simp [eq_comm]
      rw [h1]
      simp only [h, decide_false]
      simp only [Bool.and_eq_false_iff, decide_eq_false_iff_not]
      have h4 : ∀ (x y : Nat), ¬ x = y → (¬ y ≥ x ∨ ¬ y - x = 0) := fun x y hxy => by omega
      exact h4 d i h
theorem upo_off {e : Env} {d : Option Tmp} {v : Value} {i : Nat} (h : ∀ x, d = some x → x ≠ i) : upo e d v i = e i := by
  cases d with
  | none => rfl
  | some d =>
    have : Nat.beq i d = false := by
      cases hh : Nat.beq i d with
      | false => rfl
      | true => exact absurd (Nat.eq_of_beq_eq_true hh).symm (h d rfl)
    simp [upo, up, this]

theorem denOps_sound {N : Nat} {ops : Array Oper} : ∀ (l : List Oper) (k : Nat) (e : Env) (K : Env → W) (a : Act) (w : World), (∀ j, l[j]? = ops[k + j]?) →
    (∀ i, (omask l).testBit i = true → i < N) → Rep N a e → denOps P ops.toList l K e w → ∀ (Q : Exit → Act → World → Prop),
    (∀ e' a' w', Rep N a' e' → a'.defers = a.defers → (∀ i, (omask l).testBit i = false → e' i = e i) → K e' w' → Q .normal a' w') →
    wpOpsIn (FR ro) 0 P ops Q (List.range' k l.length) a w := by
  intro l
  induction l with
  | nil => intro k e K a w _ _ hr h Q hQ; exact hQ e a w hr rfl (fun _ _ => rfl) h
  | cons o l ih =>
    intro k e K a w hl hN hr h Q hQ
    have h0 : ops[k]? = some o := by simpa using (hl 0).symm
    simp only [List.length_cons, List.range'_succ, wpOpsIn, h0]
    have hd : ∀ x, o.dst = some x → x < N := fun x hx => hN x (by rw [omask_cons, hx]; simp)
    refine opG_sound (ops := ops) hr h Q _ fun v w' hK => ?_
    refine ih (k + 1) _ K _ w' (fun j => by have := hl (j + 1); simpa [Nat.add_assoc, Nat.add_comm 1 j] using this) (fun i hi => hN i (by rw [omask_cons, hi]; simp)) (hr.put hd v) hK Q ?_
    intro e' a' w'' hr' hdf hoff hK'
    refine hQ e' a' w'' hr' (hdf.trans (by cases o.dst <;> rfl)) (fun i hi => ?_) hK'
    rw [omask_cons] at hi
    simp only [Bool.or_eq_false_iff] at hi
    rw [hoff i hi.2]
    exact upo_off fun x hx hxi => by rw [hx] at hi; simp [hxi] at hi
end Go.Dn
