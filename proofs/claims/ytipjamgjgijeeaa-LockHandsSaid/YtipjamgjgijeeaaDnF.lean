/-
  Own framework, part F: a function's call out of what its body denotes; a round of a range over a function.
  Conditions: none; general over any program.
-/
import Derived.Test.YtipjamgjgijeeaaDnE
namespace Go.Dn
set_option linter.unusedSimpArgs false
set_option linter.unusedVariables false
variable {P : Program}

def mkRes : List Value → Value
  | [v] => v
  | vs => .tuple vs.toArray
def resK (P : Program) : List ResultVar → List Value → Env → (Value → W) → W
  | [], acc, _, R => R (mkRes acc.reverse)
  | .tmp t :: rs, acc, e, R => resK P rs (e t :: acc) e R
  | .cell a t :: rs, acc, e, R => rd P (Instr.loadAt t (e a)) fun v => resK P rs (v :: acc) e R
def endM (P : Program) : List Nat → W → W
  | [], K => K
  | r :: m, K => fun w => ∃ w', (Instr.takeDeferred r).run P w = .ok [] w' ∧ endM P m K w'
def bodyX (P : Program) (rs : List ResultVar) (R : Value → W) : KX
  | .normal, e, m => endM P m (resK P rs [] e R)
  | .ret, e, m => endM P m (resK P rs [] e R)
  | .exit _, _, _ => fun _ => False
  | .goto _, _, _ => fun _ => False
  | .panic _, _, _ => fun _ => False
  | .outgrown, _, _ => fun _ => False
/-- What a function's body denotes. -/
def denF (P : Program) (lv : List (Nat × Nat)) (N : Nat) (rs : List ResultVar) (c : Code) (args : List Value) (R : Value → W) : W := den P none lv N c (bodyX P rs R) (envOf args) []

theorem loadAt_asAddr {t : TypeId} {v u : Value} {w : World} (h : (Instr.loadAt t v).run P w = .ok u w) : (do loadVar t (← asAddr v) : Sem Value).run P w = .ok u w := by
  unfold Instr.loadAt at h
  cases v <;> simp only [Instr.sureAddr, asAddr] at h ⊢ <;> try (simp [stuck] at h; done)
  rename_i a
  cases a with
  | none => simp [Instr.sureAddr, stuck] at h
  | some a => exact h
theorem resK_sound {tmps : Array Value} {e : Env} (he : ∀ i, tmps.getD i undef = e i) : ∀ (rs : List ResultVar) (acc : List Value) (R : Value → W) (w : World), resK P rs acc e R w →
    ∃ vs : List Value, (rs.mapM fun
      | .tmp t => pure (tmps.getD t undef)
      | .cell a t => do loadVar t (← asAddr (tmps.getD a undef)) : Sem (List Value)).run P w = .ok vs w ∧ R (mkRes (acc.reverse ++ vs)) w
  | [], acc, R, w, h => ⟨[], rfl, by simpa [resK] using h⟩
  | .tmp t :: rs, acc, R, w, h => by
    obtain ⟨vs, h1, h2⟩ := resK_sound he rs (e t :: acc) R w h
    refine ⟨e t :: vs, ?_, by simpa using h2⟩
    simp only [List.mapM_cons, he, Sem.run_bind, Sem.run_pure, Result.andThen]
    simp only [he] at h1
    rw [h1]
  | .cell a t :: rs, acc, R, w, h => by
    obtain ⟨v, hv, h⟩ := h
    obtain ⟨vs, h1, h2⟩ := resK_sound he rs (v :: acc) R w h
    refine ⟨v :: vs, ?_, by simpa using h2⟩
    have h3 := loadAt_asAddr hv
    simp only [List.mapM_cons, he]
    rw [Sem.run_bind, h3]
    simp only [Result.andThen, Sem.run_bind, Sem.run_pure]
    simp only [he] at h1
    rw [h1]
theorem endM_sound {fn : Func} {tmps : Array Value} {R : Ending → World → Prop} {K : W} (hK : ∀ w, K w → LeavesIn (FR none) 0 P fn tmps R [] .returning w) :
    ∀ (m : List Nat) (w : World), endM P m K w → LeavesInM (FR none) 0 P fn tmps R (marksD m) .returning w
  | [], w, h => hK w h
  | r :: m, w, h => by
    obtain ⟨w', h1, h2⟩ := h
    exact ⟨by simp, .inl ⟨r, w', rfl, h1, endM_sound hK m w' h2⟩⟩

/-- The tests of a body, all of them closed. -/
def fitsB (N : Nat) (c : Code) : Bool := codeOk c && Nat.blt (wmask c) (Nat.pow 2 N)
theorem fitsB_spec {N : Nat} {c : Code} (h : fitsB N c = true) : codeOk c = true ∧ ∀ i, Nat.testBit (wmask c) i = true → i < N := by
  simp only [fitsB, Bool.and_eq_true] at h
  refine ⟨h.1, fun i hi => ?_⟩
  have h1 : wmask c < 2 ^ N := by
    have := h.2
    simp [Nat.blt] at this
    exact this
  exact Nat.lt_of_not_le fun hle => by
    have : (wmask c).testBit i = false := Nat.testBit_lt_two_pow (Nat.lt_of_lt_of_le h1 (Nat.pow_le_pow_right (by decide) hle))
    rw [show Nat.testBit (wmask c) i = false from this] at hi
    cases hi
theorem envOf_get (args : List Value) (n : Nat) (i : Nat) : (args.toArray ++ Array.replicate n undef).getD i undef = envOf args i := by
  unfold envOf
  rw [Array.getD_eq_getD_getElem?, Array.getElem?_append, List.getD_eq_getElem?_getD]
  by_cases h : i < args.length
  · simp [h]
  · simp only [List.size_toArray, h, if_false]
    rw [List.getElem?_eq_none (by omega)]
    by_cases h2 : i - args.length < n
    · simp [h2]
    · simp [h2]

/-- **A function's call.** -/
theorem call_sound {f : FuncId} {fn : Func} {c : Code} {lv : List (Nat × Nat)} {args : List Value} {R : Value → W} {w : World} (hmix : P.follows .mixedOrders = true)
    (hf : P.funcs[f]? = some fn) (hb : fn.body = some c) (hfit : fitsB fn.ntmps c = true) (ha : args.length ≤ fn.ntmps)
    (h : denF P lv fn.ntmps fn.results.toList c args R w) : Calls P f args.toArray w (ret1 R) := by
  obtain ⟨hok, hN⟩ := fitsB_spec hfit
  refine callsFR.1 (callsIn_of_wp_marks (F := FR none) (n := 0) hf hb trivial ?_)
  have hr : Rep fn.ntmps { tmps := args.toArray ++ Array.replicate (fn.ntmps - args.toArray.size) undef, defers := [] } (envOf args) :=
    ⟨by simp; omega, fun i => envOf_get args _ i⟩
  refine wpIn_mono (den_sound (D := []) hmix c _ (envOf args) [] _ w hok hN hr rfl h) ?_
  have key : ∀ (e' : Env) (m' : List Nat) (a' : Act) (w' : World), Rep fn.ntmps a' e' → a'.defers = marksD m' ++ [] → endM P m' (resK P fn.results.toList [] e' R) w' →
      LeavesInM (FR none) 0 P fn a'.tmps (ret1 R) a'.defers .returning w' := by
    intro e' m' a' w' hr' hd' hq
    rw [hd', List.append_nil]
    refine endM_sound (fun w'' hw'' => ?_) m' w' hq
    obtain ⟨vs, h1, h2⟩ := resK_sound hr'.get _ _ _ _ hw''
    refine ⟨mkRes vs, ?_, h2⟩
    unfold results
    rw [Array.mapM_eq_mapM_toList]
    simp only [map_eq_pure_bind, bind_assoc, pure_bind]
    rw [Sem.run_bind]
    refine Eq.trans (congrArg (fun r => Result.andThen r _) h1) ?_
    simp only [Result.andThen, Sem.run_pure]
    congr 1
    clear h1 h2
    rcases vs with _ | ⟨v, _ | ⟨u, vs⟩⟩ <;> simp [mkRes]
  rintro ex a' w' ⟨e', m', hr', hd', _, _, hq⟩
  cases ex with
  | normal => exact key e' m' a' w' hr' hd' hq
  | ret => exact key e' m' a' w' hr' hd' hq
  | _ => exact hq.elim

/-! ## A round -/
def beginW (P : Program) (l : Nat) (K : W) : W := fun w => ∃ w', (Instr.beginRound l).run P w = .ok () w' ∧ K w'
def endW (P : Program) (l : Nat) (jump : Option Code) (K : Value → W) : W := fun w => ∃ v w', (Instr.endRound l jump).run P w = .ok v w' ∧ K v w'
def roundX (P : Program) (l : Nat) (K : Value → W) : KX
  | .normal, _, _ => endW P l none K
  | .ret, _, _ => endW P l (some .ret) K
  | .exit i, _, _ => endW P l (some (.exit i)) K
  | .goto _, _, _ => fun _ => False
  | .panic _, _, _ => fun _ => False
  | .outgrown, _, _ => fun _ => False
/-- What a round denotes. -/
def denR (P : Program) (lv : List (Nat × Nat)) (N l : Nat) (assign body : Code) (e : Env) (K : Value → W) : W :=
  den P (some l) lv N assign (seqX (fun e' m' => beginW P l (den P (some l) lv N body (roundX P l K) e' m')) fun _ _ _ _ => False) e []
theorem round_sound {l : Nat} {f : FuncId} {tmps : Array Value} {lv : List (Nat × Nat)} {N : Nat} {assign body : Code} {e : Env} {K : Value → W} {w : World} (hmix : P.follows .mixedOrders = true)
    (hfa : fitsB N assign = true) (hfb : fitsB N body = true) (hs : tmps.size = N) (he : ∀ i, tmps.getD i undef = e i) (h : denR P lv N l assign body e K w) :
    RoundIn Fence.wide 0 P l f tmps assign body w (ret1 K) := by
  obtain ⟨hoka, hNa⟩ := fitsB_spec hfa
  obtain ⟨hokb, hNb⟩ := fitsB_spec hfb
  refine roundFR.1 (roundIn_of_wpIn (F := FR (some l)) trivial ?_)
  refine wpIn_mono (den_sound (ro := some l) (D := []) hmix assign _ e [] { tmps := tmps, defers := [] } w hoka hNa ⟨hs, he⟩ rfl h) ?_
  rintro ex a1 w1 ⟨e1, m1, hr1, hd1, _, _, hq⟩
  cases ex with
  | normal =>
    obtain ⟨w2, hbeg, hbody⟩ := hq
    refine ⟨w2, hbeg, wpIn_mono (den_sound (ro := some l) (D := []) hmix body _ e1 m1 a1 w2 hokb hNb hr1 hd1 hbody) ?_⟩
    rintro ex a2 w3 ⟨e2, m2, _, _, _, _, hq2⟩
    cases ex with
    | normal => exact hq2
    | ret => exact hq2
    | exit i => exact hq2
    | _ => exact hq2.elim
  | _ => exact hq.elim
end Go.Dn
