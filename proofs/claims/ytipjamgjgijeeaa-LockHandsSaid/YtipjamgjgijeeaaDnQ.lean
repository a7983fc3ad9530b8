/-
  Own framework, part Q: ranges over functions.
  Conditions: none; general over any program.
-/
import Derived.Test.YtipjamgjgijeeaaDnP
set_option linter.unusedSectionVars false
set_option synthInstance.maxSize 10000
set_option synthInstance.maxHeartbeats 400000
set_option maxHeartbeats 2000000
namespace Go.Dn
set_option linter.unusedSimpArgs false
set_option linter.unusedVariables false
variable {P : Program} [sd : Side]
/-- A block of another kind than cells. -/
def notCells (o : Obj) : Bool := match o with
  | .cells .. => false
  | _ => true
class PickO (b : Nat) (L : List HProp) (o : outParam Obj) (L' : outParam (Obj → List HProp)) : Prop where
  out : ∃ M, (∀ h, sats L h → sats (ob b o :: M) h) ∧ ∀ o' h, sats (ob b o' :: M) h → sats (L' o') h
instance PickO.here {b : Nat} {o : Obj} {L : List HProp} : PickO b (ob b o :: L) o (fun x => ob b x :: L) := ⟨L, fun _ h => h, fun _ _ h => h⟩
instance (priority := low) PickO.there {b : Nat} {o : Obj} {A : HProp} {L : List HProp} {L' : Obj → List HProp} [pk : PickO b L o L'] : PickO b (A :: L) o (fun x => A :: L' x) :=
  let ⟨M, h1, h2⟩ := pk.out
  ⟨A :: M, fun _ h => sats_swap (sats_tail h1 h), fun a' _ h => sats_tail (h2 a') (sats_swap h)⟩
theorem PickO.get {b : Nat} {L : List HProp} {o : Obj} {L' : Obj → List HProp} (pk : PickO b L o L') {w : World} (h : Sat L w) : w.heap[b]? = some o := by
  obtain ⟨M, h1, _⟩ := pk.out
  exact sng_get (fun _ h => h) (h1 _ h.1)
theorem PickO.set {b : Nat} {L : List HProp} {o : Obj} {L' : Obj → List HProp} (pk : PickO b L o L') {w : World} (h : Sat L w) (o' : Obj) : Sat (L' o') { w with heap := w.heap.setIfInBounds b o' } := by
  obtain ⟨M, h1, h2⟩ := pk.out
  have hb : b < w.heap.size := by
    have := pk.get h
    exact (Array.getElem?_eq_some_iff.1 this).1
  refine ⟨h2 o' _ (sats_set (b := b) (o' := o') (h1 _ h.1) ?_ ?_), sd.keep (w := w) ⟨rfl, rfl, rfl⟩ h.2⟩
  · simp [hof, hb]
  · intro i hi
    simp [hof, Array.getElem?_setIfInBounds_ne (Ne.symm hi)]
theorem run_getObj {b : Nat} {o : Obj} {w : World} (h : w.heap[b]? = some o) (hn : notCells o = true) : (getObj b).run P w = .ok o w := by
  cases o <;> simp_all [getObj, Sem.run, notCells]
theorem run_setObj {b : Nat} {o o' : Obj} {w : World} (h : w.heap[b]? = some o) (hn : notCells o = true) : (setObj b o').run P w = .ok () { w with heap := w.heap.setIfInBounds b o' } := by
  cases o <;> simp_all [setObj, Sem.run, notCells]
/-- A range's record. -/
def lrec (l : Nat) (st : LoopState) (pend : Option Code) (fn : FuncId) (tmps : Array Value) (ps : Array Tmp) (assign body : Code) (d : Nat) : HProp :=
  ob l (.loop { state := st, pending := pend, fn := fn, tmps := tmps, params := ps, assign := assign, body := body, defers := d })
class PickL (l : Nat) (L : List HProp) (st : outParam LoopState) (pend : outParam (Option Code)) (fn : outParam FuncId) (tmps : outParam (Array Value)) (ps : outParam (Array Tmp)) (assign body : outParam Code) (d : outParam Nat)
    (L' : outParam (LoopState → Option Code → List HProp)) : Prop where
  out : ∃ M, (∀ h, sats L h → sats (lrec l st pend fn tmps ps assign body d :: M) h) ∧ ∀ st' p' h, sats (lrec l st' p' fn tmps ps assign body d :: M) h → sats (L' st' p') h
instance PickL.here {l : Nat} {st : LoopState} {pend : Option Code} {fn : FuncId} {tmps : Array Value} {ps : Array Tmp} {assign body : Code} {d : Nat} {L : List HProp} :
    PickL l (lrec l st pend fn tmps ps assign body d :: L) st pend fn tmps ps assign body d (fun s p => lrec l s p fn tmps ps assign body d :: L) := ⟨L, fun _ h => h, fun _ _ _ h => h⟩
instance (priority := low) PickL.there {l : Nat} {st : LoopState} {pend : Option Code} {fn : FuncId} {tmps : Array Value} {ps : Array Tmp} {assign body : Code} {d : Nat} {A : HProp} {L : List HProp} {L' : LoopState → Option Code → List HProp}
    [pk : PickL l L st pend fn tmps ps assign body d L'] : PickL l (A :: L) st pend fn tmps ps assign body d (fun s p => A :: L' s p) :=
  let ⟨M, h1, h2⟩ := pk.out
  ⟨A :: M, fun _ h => sats_swap (sats_tail h1 h), fun s p _ h => sats_tail (h2 s p) (sats_swap h)⟩
section
variable {L : List HProp} {l : Nat} {st : LoopState} {pend : Option Code} {fn : FuncId} {tmps : Array Value} {ps : Array Tmp} {assign body : Code} {d : Nat} {L' : LoopState → Option Code → List HProp}
theorem PickL.get (pk : PickL l L st pend fn tmps ps assign body d L') {w : World} (h : Sat L w) :
    w.heap[l]? = some (.loop { state := st, pending := pend, fn := fn, tmps := tmps, params := ps, assign := assign, body := body, defers := d }) := by
  obtain ⟨M, h1, _⟩ := pk.out
  exact sng_get (A := lrec l st pend fn tmps ps assign body d) (fun _ h => h) (h1 _ h.1)
theorem PickL.set (pk : PickL l L st pend fn tmps ps assign body d L') {w : World} (h : Sat L w) (s' : LoopState) (p' : Option Code) :
    Sat (L' s' p') { w with heap := w.heap.setIfInBounds l (.loop { state := s', pending := p', fn := fn, tmps := tmps, params := ps, assign := assign, body := body, defers := d }) } := by
  obtain ⟨M, h1, h2⟩ := pk.out
  have hb : l < w.heap.size := (Array.getElem?_eq_some_iff.1 (pk.get h)).1
  refine ⟨h2 s' p' _ (sats_set (b := l) (h1 _ h.1) ?_ ?_), sd.keep (w := w) ⟨rfl, rfl, rfl⟩ h.2⟩
  · simp [hof, hb]
  · intro i hi
    simp [hof, Array.getElem?_setIfInBounds_ne (Ne.symm hi)]
theorem run_getLoop {w : World} {r : Loop} (h : w.heap[l]? = some (.loop r)) : (Instr.getLoop l).run P w = .ok r w := by
  unfold Instr.getLoop
  rw [Sem.run_bind, run_getObj h rfl]
  rfl
instance St.begin {K : W} [pk : PickL l L .ready pend fn tmps ps assign body d L'] : St L (beginW P l K) True (Ent (L' .busy pend) K) :=
  ⟨fun _ h w hw => by
    refine ⟨_, ?_, h _ (pk.set hw .busy pend)⟩
    unfold Instr.beginRound
    rw [Sem.run_bind, run_getLoop (pk.get hw)]
    simp only [Result.andThen]
    rw [Sem.run_bind, run_setObj (pk.get hw) rfl]
    rfl⟩
instance St.endN {K : Value → W} [pk : PickL l L st pend fn tmps ps assign body d L'] : St L (endW P l none K) True (Ent (L' .ready none) (K (.bool true))) :=
  ⟨fun _ h w hw => by
    refine ⟨_, _, ?_, h _ (pk.set hw .ready none)⟩
    unfold Instr.endRound
    rw [Sem.run_bind, run_getLoop (pk.get hw)]
    simp only [Result.andThen]
    rw [Sem.run_bind, run_setObj (pk.get hw) rfl]
    rfl⟩
instance St.endJ {K : Value → W} {j : Code} [pk : PickL l L st pend fn tmps ps assign body d L'] : St L (endW P l (some j) K) True (Ent (L' .done (some j)) (K (.bool false))) :=
  ⟨fun _ h w hw => by
    refine ⟨_, _, ?_, h _ (pk.set hw .done (some j))⟩
    unfold Instr.endRound
    rw [Sem.run_bind, run_getLoop (pk.get hw)]
    simp only [Result.andThen]
    rw [Sem.run_bind, run_setObj (pk.get hw) rfl]
    rfl⟩
/-- One round: from what its code denotes. -/
theorem ent_round {args : List Value} {K : Value → W} {lv : List (Nat × Nat)} {N : Nat} [pk : PickL l L st pend fn tmps ps assign body d L'] (hmix : P.follows .mixedOrders = true) (hf : fitsB N assign = true ∧ fitsB N body = true)
    (hs : tmps.size = N) (ha : args.length = ps.size) (e : Env) (he : ∀ i, ((ps.zip args.toArray).foldl (fun (tmps : Array Value) (x : Tmp × Value) => tmps.setIfInBounds x.1 x.2) tmps).getD i undef = e i)
    (h : Ent L (denR P lv N l assign body e K)) : Ent L (roundC P l args K) := by
  intro w hw
  refine ⟨_, pk.get hw, ha, ?_⟩
  refine round_sound (lv := lv) hmix hf.1 hf.2 ?_ he (h w hw)
  have key : ∀ (xs : List (Tmp × Value)) (t : Array Value), (xs.foldl (fun (tmps : Array Value) (x : Tmp × Value) => tmps.setIfInBounds x.1 x.2) t).size = t.size := by
    intro xs
    induction xs with
    | nil => intro t; rfl
    | cons x xs ih => intro t; rw [List.foldl_cons, ih]; simp
  rw [← Array.foldl_toList, key, hs]
end
/-- A value that is called is what a range hands in. -/
theorem ent_yield {L : List HProp} {l : Nat} {args : List Value} {K : Value → W} (h : Ent L (roundC P l args K)) : Ent L (callV P (.func (.yield l) #[] #[]) args K) := h
theorem ent_callF {L : List HProp} {g : FuncId} {first captured : Array Value} {args : List Value} {K : Value → W} [en : EnT P g] (h : Ent L (callC P g (first.toList ++ args ++ captured.toList) K)) : Ent L (callF P (.func (.func g) first captured) args K) := fun w hw => callE_of en.out (h w hw)
theorem ent_callV {L : List HProp} {g : FuncId} {first captured : Array Value} {args : List Value} {K : Value → W} (h : Ent L (callC P g (first.toList ++ args ++ captured.toList) K)) : Ent L (callV P (.func (.func g) first captured) args K) := h

/-- A block for the rounds' deferred calls. -/
def dfr (r : Nat) : HProp := ob r (.deferred (some []))
/-- A range over a function, outside of any round: the call with its record laid. -/
theorem ent_range {L : List HProp} {N : Nat} {f : FuncId} [en : EnT P f] {first captured : Array Value} {ps : Array Tmp} {assign body : Code} {facts : List (Nat × Value)} {Jn Jr : List Nat → W} {Jx : List (Nat × (List Nat → W))}
    (h : ∀ fn tmps l r, tmps.size = N → (∀ p ∈ facts, tmps.getD p.1 undef = p.2) → ∀ K : Value → W,
      (∀ (v : Value) (M : List HProp) st pend, st ≠ .busy → (∀ w, Sat (lrec l .exhausted pend fn tmps ps assign body r :: M) w → jumpN (Jn [r]) (Jr [r]) (Jx.map fun p => (p.1, p.2 [r])) pend w) → Ent (lrec l st pend fn tmps ps assign body r :: M) (K v)) →
      Ent (lrec l .ready none fn tmps ps assign body r :: dfr r :: L) (callC P f (first.toList ++ [.func (.yield l) #[] #[]] ++ captured.toList) K)) :
    Ent L (rangeW P none N (.func (.func f) first captured) ps assign body facts Jn Jr Jx) := by
  intro w hw fn tmps hN hf
  have hw1 := sat_new hw (.deferred (some []))
  have hw2 := sat_new hw1 (.loop { state := .ready, pending := none, fn := fn, tmps := tmps, params := ps, assign := assign, body := body, defers := w.heap.size })
  refine ⟨w.heap.size + 1, [w.heap.size], { w with heap := (w.heap.push (.deferred (some []))).push (.loop { state := .ready, pending := none, fn := fn, tmps := tmps, params := ps, assign := assign, body := body, defers := w.heap.size }) }, ?_, ?_⟩
  · unfold Instr.enterLoop
    simp only [newObj, Sem.run_bind, Sem.run, Result.andThen, Sem.run_pure, Array.size_push]
    rfl
  · have hw3 : Sat (lrec (w.heap.size + 1) .ready none fn tmps ps assign body w.heap.size :: dfr w.heap.size :: L) { w with heap := (w.heap.push (.deferred (some []))).push (.loop { state := .ready, pending := none, fn := fn, tmps := tmps, params := ps, assign := assign, body := body, defers := w.heap.size }) } := by
      have := hw2
      simp only [Array.size_push] at this
      exact this
    refine callE_of en.out (h fn tmps (w.heap.size + 1) w.heap.size hN hf _ ?_ _ hw3)
    intro v M st pend hst hk w' hw'
    have pk : PickL (w.heap.size + 1) (lrec (w.heap.size + 1) st pend fn tmps ps assign body w.heap.size :: M) st pend fn tmps ps assign body w.heap.size (fun s p => lrec (w.heap.size + 1) s p fn tmps ps assign body w.heap.size :: M) := inferInstance
    refine ⟨pend, _, ?_, hk _ (pk.set hw' .exhausted pend)⟩
    unfold Instr.endLoop
    rw [Sem.run_bind, run_getLoop (pk.get hw')]
    simp only [Result.andThen]
    have : (st == LoopState.busy) = false := by cases st <;> first | rfl | exact absurd rfl hst
    simp only [this, Bool.false_eq_true, if_false]
    rw [Sem.run_bind, run_setObj (pk.get hw') rfl]
    rfl
/-- The way out of a function that holds ranges. -/
theorem ent_endM0 {L : List HProp} {K : W} (h : Ent L K) : Ent L (endM P [] K) := h
theorem ent_endM {L M : List HProp} {r : Nat} {m : List Nat} {K : W} [tk : TakeF (dfr r) L M] (h : Ent M (endM P m K)) : Ent L (endM P (r :: m) K) := by
  intro w hw
  have h1 := tk.out _ hw.1
  have hb := sng_get (A := dfr r) (fun _ h => h) h1
  refine ⟨{ w with heap := w.heap.setIfInBounds r (.deferred none) }, ?_, h _ ⟨?_, sd.keep (w := w) ⟨rfl, rfl, rfl⟩ hw.2⟩⟩
  · unfold Instr.takeDeferred
    rw [Sem.run_bind, run_getObj hb rfl]
    simp only [Result.andThen]
    rw [Sem.run_bind, run_setObj hb rfl]
    rfl
  · have hlt : r < w.heap.size := (Array.getElem?_eq_some_iff.1 hb).1
    refine sats_drop (A := ob r (.deferred none)) (sats_set (b := r) h1 ?_ ?_)
    · simp [hof, hlt]
    · intro i hi
      simp [hof, Array.getElem?_setIfInBounds_ne (Ne.symm hi)]
theorem getD_ne {tmps : Array Value} {k j : Nat} {v : Value} (h : k ≠ j) : (tmps.setIfInBounds k v).getD j undef = tmps.getD j undef := by
  simp only [Array.getD_eq_getD_getElem?]
  rw [Array.getElem?_setIfInBounds_ne h]
theorem getD_self {tmps : Array Value} {k N : Nat} {v : Value} (hs : tmps.size = N) (h : k < N) : (tmps.setIfInBounds k v).getD k undef = v := by
  simp only [Array.getD_eq_getD_getElem?]
  rw [Array.getElem?_setIfInBounds_self_of_lt (by omega)]
  rfl
theorem size_set {tmps : Array Value} {k N : Nat} {v : Value} (hs : tmps.size = N) : (tmps.setIfInBounds k v).size = N := by rw [Array.size_setIfInBounds]; exact hs
theorem zip0 {tmps : Array Value} : ((#[] : Array Tmp).zip ([] : List Value).toArray).foldl (fun (tmps : Array Value) (x : Tmp × Value) => tmps.setIfInBounds x.1 x.2) tmps = tmps := by
  rw [← Array.foldl_toList, Array.toList_zip]; rfl
theorem zip1 {tmps : Array Value} {k : Nat} {v : Value} : ((#[k] : Array Tmp).zip [v].toArray).foldl (fun (tmps : Array Value) (x : Tmp × Value) => tmps.setIfInBounds x.1 x.2) tmps = tmps.setIfInBounds k v := by
  rw [← Array.foldl_toList, Array.toList_zip]; rfl
theorem zip2 {tmps : Array Value} {k k' : Nat} {v v' : Value} : ((#[k, k'] : Array Tmp).zip [v, v'].toArray).foldl (fun (tmps : Array Value) (x : Tmp × Value) => tmps.setIfInBounds x.1 x.2) tmps = (tmps.setIfInBounds k v).setIfInBounds k' v' := by
  rw [← Array.foldl_toList, Array.toList_zip]; rfl
end Go.Dn
