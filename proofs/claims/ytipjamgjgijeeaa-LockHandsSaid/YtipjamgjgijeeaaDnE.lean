/-
  Own framework, part E: what a body denotes; its soundness for the machine.
  Conditions: none; general over any program.
-/
import Derived.Test.YtipjamgjgijeeaaDnD
import Derived.StillTail
namespace Go.Dn
set_option linter.unusedSimpArgs false
set_option linter.unusedVariables false
variable {P : Program}

def wmask : Code → Nat
  | .region _ ops _ => omask ops.toList
  | .seq a b => Nat.lor (wmask a) (wmask b)
  | .cond _ a b => Nat.lor (wmask a) (wmask b)
  | .block _ c => wmask c
  | .loop c => wmask c
  | .scope c => wmask c
  | _ => 0
def hasRF : Code → Bool
  | .rangeFunc .. => true
  | .seq a b => hasRF a || hasRF b
  | .cond _ a b => hasRF a || hasRF b
  | .block _ c => hasRF c
  | .loop c => hasRF c
  | .scope c => hasRF c
  | _ => false
def codeOk : Code → Bool
  | .region _ ops true => drawOk ops.toList (befs ops.toList)
  | .seq a b => codeOk a && codeOk b
  | .cond _ a b => codeOk a && codeOk b
  | .block _ c => codeOk c
  | .loop c => codeOk c
  | .scope c => codeOk c
  | _ => true
abbrev KX := Exit → Env → List Nat → W
def br (v : Value) (A B : W) : W := match v with
  | .bool true => A
  | .bool false => B
  | _ => fun _ => False
def drw (K : W) : W := fun w => K { w with drawn := w.drawn + 1 }
def seqX (K : Env → List Nat → W) (Q : KX) : KX
  | .normal, e, m => K e m
  | .exit i, e, m => Q (.exit i) e m
  | .goto i, e, m => Q (.goto i) e m
  | .ret, e, m => Q .ret e m
  | .panic c, e, m => Q (.panic c) e m
  | .outgrown, e, m => Q .outgrown e m
def blockX (id : Nat) (Q : KX) : KX
  | .normal, e, m => Q .normal e m
  | .exit i, e, m => bif Nat.beq i id then Q .normal e m else Q (.exit i) e m
  | .goto i, e, m => Q (.goto i) e m
  | .ret, e, m => Q .ret e m
  | .panic c, e, m => Q (.panic c) e m
  | .outgrown, e, m => Q .outgrown e m
/-- Of each loop, known by the slots that it writes, which of them are followed. -/
def lvOf : List (Nat × Nat) → Nat → Nat
  | [], _ => 0
  | (k, v) :: l, m => bif Nat.beq k m then v else lvOf l m
/-- The slots that a loop is followed by. -/
def trk (m : Nat) : List Nat := (List.range (Nat.log2 m + 1)).filter (Nat.testBit m)
def look : List Nat → List Value → Nat → Option Value
  | [], _, _ => none
  | t :: ts, s, i => bif Nat.beq i t then some (List.headD s undef) else look ts (List.tail s) i
def mix (tr : List Nat) (mask : Nat) (s : List Value) (j e : Env) : Env := fun i => match look tr s i with
  | some v => v
  | none => bif Nat.testBit mask i then j i else e i
/-- A loop: what holds at each round's head, of the slots that are followed. -/
def loopL (n : Nat) (B : (List Value → W) → List Value → Env → W) (s0 : List Value) : W := fun w =>
  ∃ (I : List Value → W) (μ : List Value → World → Nat), I s0 w ∧ ∀ (s : List Value) (j : Env) (w' : World), s.length = n → I s w' →
    B (fun s' w'' => I s' w'' ∧ μ s' w'' < μ s w') s j w'
def loopM (n : Nat) (B : (List Value → List Nat → W) → List Value → List Nat → Env → W) (s0 : List Value) (m0 : List Nat) : W := fun w =>
  ∃ (I : List Value → List Nat → W) (μ : List Value → World → Nat), I s0 m0 w ∧ ∀ (s : List Value) (m : List Nat) (j : Env) (w' : World), s.length = n → I s m w' →
    B (fun s' m' w'' => I s' m' w'' ∧ μ s' w'' < μ s w') s m j w'
def marksD (m : List Nat) : List Deferred := m.map fun r => { target := .collected r, args := #[] }
def pickX : List (Nat × W) → Nat → W
  | [], _ => fun _ => False
  | (j, K) :: l, i => bif Nat.beq i j then K else pickX l i
/-- What a range's pending jump leads to. -/
def jumpN (n r : W) (xs : List (Nat × W)) : Option Code → W
  | none => n
  | some .ret => r
  | some (.exit i) => pickX xs i
  | _ => fun _ => False
/-- The exits that leave a piece of code. -/
def exIds : Code → List Nat
  | .exit i => [i]
  | .seq a b => exIds a ++ exIds b
  | .cond _ a b => exIds a ++ exIds b
  | .block id c => (exIds c).filter fun i => !Nat.beq i id
  | .loop c => exIds c
  | .scope c => exIds c
  | .rangeFunc _ _ _ b => exIds b
  | _ => []
def rdO : Operand → Nat
  | .tmp t => Nat.shiftLeft 1 t
  | _ => 0
def rdOps (all : List Oper) : List Oper → Nat
  | [] => 0
  | o :: os => Nat.lor (Nat.lor (o.op.operands.toList.foldr (fun x m => Nat.lor (rdO x) m) 0) (match o.guard with
      | some (g, _) => match gdst all g with
        | some d => Nat.shiftLeft 1 d
        | none => 0
      | none => 0)) (rdOps all os)
/-- The slots that a piece of code looks at, as bits. -/
def rdm : Code → Nat
  | .region _ ops _ => rdOps ops.toList ops.toList
  | .seq a b => Nat.lor (rdm a) (rdm b)
  | .cond c a b => Nat.lor (rdO c) (Nat.lor (rdm a) (rdm b))
  | .block _ c => rdm c
  | .loop c => rdm c
  | .scope c => rdm c
  | .rangeFunc f _ a b => Nat.lor (rdO f) (Nat.lor (rdm a) (rdm b))
  | _ => 0
def callF (P : Program) (f : Value) (args : List Value) (K : Value → W) : W := match f with
  | .func (.func g) first captured => callE P g (first.toList ++ args ++ captured.toList) K
  | _ => fun _ => False
/-- A range over a function: of the temporaries that its record bears what its rounds look at is told. -/
def rangeW (P : Program) (ro : Option Nat) (N : Nat) (f : Value) (ps : Array Tmp) (assign body : Code) (facts : List (Nat × Value)) (Jn Jr : List Nat → W) (Jx : List (Nat × (List Nat → W))) : W := fun w =>
  ∀ (fn : FuncId) (tmps : Array Value), tmps.size = N → (∀ p ∈ facts, tmps.getD p.1 undef = p.2) → ∃ l mk w1, (Instr.enterLoop fn tmps ps assign body ro).run P w = .ok (l, marksD mk) w1 ∧
    callF P f [.func (.yield l) #[] #[]] (fun _ w3 => ∃ jump w4, (Instr.endLoop l).run P w3 = .ok jump w4 ∧ jumpN (Jn mk) (Jr mk) (Jx.map fun p => (p.1, p.2 mk)) jump w4) w1

def den (P : Program) (ro : Option Nat) (lv : List (Nat × Nat)) (N : Nat) : Code → KX → Env → List Nat → W
  | .skip, Q, e, m => Q .normal e m
  | .label _, Q, e, m => Q .normal e m
  | .seq a b, Q, e, m => den P ro lv N a (seqX (den P ro lv N b Q) Q) e m
  | .cond c a b, Q, e, m => br (ev e c) (den P ro lv N a Q e m) (den P ro lv N b Q e m)
  | .block id c, Q, e, m => den P ro lv N c (blockX id Q) e m
  | .loop c, Q, e, m => bif hasRF c then
      loopM (trk (lvOf lv (wmask c))).length (fun K s m' j => den P ro lv N c (seqX (fun e' m'' => K ((trk (lvOf lv (wmask c))).map e') m'') Q) (mix (trk (lvOf lv (wmask c))) (wmask c) s j e) m') ((trk (lvOf lv (wmask c))).map e) m
    else
      loopL (trk (lvOf lv (wmask c))).length (fun K s j => den P ro lv N c (seqX (fun e' _ => K ((trk (lvOf lv (wmask c))).map e')) Q) (mix (trk (lvOf lv (wmask c))) (wmask c) s j e) m) ((trk (lvOf lv (wmask c))).map e)
  | .exit id, Q, e, m => Q (.exit id) e m
  | .ret, Q, e, m => Q .ret e m
  | .region _ ops draw, Q, e, m => bif draw then drw (denDraw P ops.toList (befs ops.toList) ops.toList.length 0 [] (fun e' => Q .normal e' m) e)
      else denOps P ops.toList ops.toList (fun e' => Q .normal e' m) e
  | .rangeFunc f ps assign body, Q, e, m => rangeW P ro N (ev e f) ps assign body ((trk (Nat.lor (rdm assign) (rdm body))).map fun i => (i, e i)) (fun mk => Q .normal e (mk ++ m)) (fun mk => Q .ret e (mk ++ m)) ((exIds body).map fun i => (i, fun mk => Q (.exit i) e (mk ++ m)))
  | _, _, _, _ => fun _ => False

/-- What a post over environments says of states. -/
def lift (N : Nat) (D : List Deferred) (e0 : Env) (m0 : List Nat) (c : Code) (Q : KX) : Exit → Act → World → Prop := fun x a w =>
  ∃ e m, Rep N a e ∧ a.defers = marksD m ++ D ∧ (∀ i, Nat.testBit (wmask c) i = false → e i = e0 i) ∧ (hasRF c = false → m = m0) ∧ Q x e m w

theorem look_map (e : Env) : ∀ (tr : List Nat) (i : Nat), look tr (tr.map e) i = (bif tr.any (Nat.beq i) then some (e i) else none)
  | [], _ => rfl
  | t :: tr, i => by
    simp only [List.map_cons, look, List.any_cons, List.headD_cons, List.tail_cons]
    cases h : Nat.beq i t with
    | true => rw [Nat.eq_of_beq_eq_true h]; simp
    | false => simp only [cond_false, Bool.false_or]; exact look_map e tr i
theorem mix_self {tr : List Nat} {mask : Nat} {e e' : Env} (h : ∀ i, Nat.testBit mask i = false → e' i = e i) : mix tr mask (tr.map e') e' e = e' := by
  funext i
  unfold mix
  rw [look_map]
  cases tr.any (Nat.beq i) with
  | true => rfl
  | false =>
    simp only [cond_false]
    cases hm : Nat.testBit mask i with
    | true => rfl
    | false => rw [cond_false]; exact (h i hm).symm

theorem den_sound {ro : Option Nat} {lv : List (Nat × Nat)} {N : Nat} (hmix : P.follows .mixedOrders = true) : ∀ (c : Code) (Q : KX) (e : Env) (m : List Nat) (a : Act) (w : World) (D : List Deferred),
    codeOk c = true → (∀ i, Nat.testBit (wmask c) i = true → i < N) → Rep N a e → a.defers = marksD m ++ D → den P ro lv N c Q e m w →
    c.wpIn (FR ro) 0 P (lift N D e m c Q) a w := by
  intro c
  induction c with
  | skip => intro Q e m a w D _ _ hr hd h; exact wpIn_skip ⟨e, m, hr, hd, fun _ _ => rfl, fun _ => rfl, h⟩
  | label l => intro Q e m a w D _ _ hr hd h; exact wpIn_label ⟨e, m, hr, hd, fun _ _ => rfl, fun _ => rfl, h⟩
  | exit id => intro Q e m a w D _ _ hr hd h; exact wpIn_exit ⟨e, m, hr, hd, fun _ _ => rfl, fun _ => rfl, h⟩
  | ret => intro Q e m a w D _ _ hr hd h; exact wpIn_ret ⟨e, m, hr, hd, fun _ _ => rfl, fun _ => rfl, h⟩
  | goto l => intro Q e m a w D _ _ hr hd h; exact h.elim
  | refuse l => intro Q e m a w D _ _ hr hd h; exact h.elim
  | region id ops draw =>
    intro Q e m a w D hok hN hr hd h
    cases draw with
    | false =>
      simp only [den, cond_false] at h
      refine wpIn_region ?_
      have h1 := denOps_sound (ro := ro) (ops := ops) ops.toList 0 e (fun e' => Q .normal e' m) a w (fun j => by simp) hN hr h (lift N D e m (.region id ops false) Q) ?_
      · rw [List.range_eq_range']
        rw [show ops.toList.length = ops.size from by simp] at h1
        exact h1
      · intro e' a' w' hr' hd' hoff hK
        exact ⟨e', m, hr', hd'.trans hd, hoff, fun _ => rfl, hK⟩
    | true =>
      simp only [den, cond_true] at h
      refine wpIn_region_any hmix ?_
      have hl : ops.toList.length = ops.size := by simp
      rw [hl] at h
      refine wpX_any (Q := fun a' w' => lift N D e m (.region id ops true) Q .normal a' w') (bm := befs ops.toList) (fun _ _ h => h) _ _ [] _ _ ?_
      refine denDraw_sound (bm := befs ops.toList) hok hN (fun a' w' => lift N D e m (.region id ops true) Q .normal a' w') (marksD m ++ D) e (fun e' => Q .normal e' m) ?_ ops.size 0 [] e a _ _ ?_ ?_ hr hd (fun _ _ => rfl) h
      · intro e' a' w' hr' hd' hoff hK
        exact ⟨e', m, hr', hd', hoff, fun _ => rfl, hK⟩
      · exact ⟨by simp, fun i => by rw [getD_replicate_false]; simp⟩
      · intro i hi
        rw [getD_replicate_false] at hi
        cases hi
  | seq x y ihx ihy =>
    intro Q e m a w D hok hN hr hd h
    simp only [codeOk, Bool.and_eq_true] at hok
    have hNx : ∀ i, Nat.testBit (wmask x) i = true → i < N := fun i hi => hN i (by simp only [wmask, lor_test, hi, Bool.true_or])
    have hNy : ∀ i, Nat.testBit (wmask y) i = true → i < N := fun i hi => hN i (by simp only [wmask, lor_test, hi, Bool.or_true])
    have split : ∀ i, Nat.testBit (wmask (.seq x y)) i = false → Nat.testBit (wmask x) i = false ∧ Nat.testBit (wmask y) i = false := fun i hi => by
      simpa [wmask, lor_test] using hi
    have rf : hasRF (.seq x y) = false → hasRF x = false ∧ hasRF y = false := fun hh => by simpa [hasRF] using hh
    refine wpIn_seq (wpIn_mono (ihx _ e m a w D hok.1 hNx hr hd h) ?_)
    rintro ex a1 w1 ⟨e1, m1, hr1, hd1, hoff1, hm1, hq⟩
    cases ex with
    | normal =>
      refine wpIn_mono (ihy Q e1 m1 a1 w1 D hok.2 hNy hr1 hd1 hq) ?_
      rintro ex a2 w2 ⟨e2, m2, hr2, hd2, hoff2, hm2, hq2⟩
      exact ⟨e2, m2, hr2, hd2, fun i hi => (hoff2 i (split i hi).2).trans (hoff1 i (split i hi).1), fun hh => (hm2 (rf hh).2).trans (hm1 (rf hh).1), hq2⟩
    | _ => exact ⟨e1, m1, hr1, hd1, fun i hi => hoff1 i (split i hi).1, fun hh => hm1 (rf hh).1, hq⟩
  | cond c x y ihx ihy =>
    intro Q e m a w D hok hN hr hd h
    simp only [codeOk, Bool.and_eq_true] at hok
    have hNx : ∀ i, Nat.testBit (wmask x) i = true → i < N := fun i hi => hN i (by simp only [wmask, lor_test, hi, Bool.true_or])
    have hNy : ∀ i, Nat.testBit (wmask y) i = true → i < N := fun i hi => hN i (by simp only [wmask, lor_test, hi, Bool.or_true])
    have split : ∀ i, Nat.testBit (wmask (.cond c x y)) i = false → Nat.testBit (wmask x) i = false ∧ Nat.testBit (wmask y) i = false := fun i hi => by
      simpa [wmask, lor_test] using hi
    have rf : hasRF (.cond c x y) = false → hasRF x = false ∧ hasRF y = false := fun hh => by simpa [hasRF] using hh
    simp only [den] at h
    cases hv : ev e c with
    | bool t =>
      rw [hv] at h
      cases t with
      | true =>
        refine wpIn_cond_true (by rw [hr.eval, hv]) (wpIn_mono (ihx Q e m a w D hok.1 hNx hr hd h) ?_)
        rintro ex a2 w2 ⟨e2, m2, hr2, hd2, hoff2, hm2, hq2⟩
        exact ⟨e2, m2, hr2, hd2, fun i hi => hoff2 i (split i hi).1, fun hh => hm2 (rf hh).1, hq2⟩
      | false =>
        refine wpIn_cond_false (by rw [hr.eval, hv]) (wpIn_mono (ihy Q e m a w D hok.2 hNy hr hd h) ?_)
        rintro ex a2 w2 ⟨e2, m2, hr2, hd2, hoff2, hm2, hq2⟩
        exact ⟨e2, m2, hr2, hd2, fun i hi => hoff2 i (split i hi).2, fun hh => hm2 (rf hh).2, hq2⟩
    | _ => rw [hv] at h; exact h.elim
  | block id c ih =>
    intro Q e m a w D hok hN hr hd h
    refine wpIn_block (wpIn_mono (ih _ e m a w D hok hN hr hd h) ?_)
    rintro ex a1 w1 ⟨e1, m1, hr1, hd1, hoff1, hm1, hq⟩
    cases ex with
    | exit i =>
      simp only [Exit.inBlock]
      simp only [blockX] at hq
      by_cases hi : i = id
      · subst hi
        rw [if_pos rfl]
        rw [Nat.beq_refl, cond_true] at hq
        exact ⟨e1, m1, hr1, hd1, hoff1, hm1, hq⟩
      · rw [if_neg hi]
        have : Nat.beq i id = false := by
          cases hh : Nat.beq i id with
          | false => rfl
          | true => exact absurd (Nat.eq_of_beq_eq_true hh) hi
        rw [this, cond_false] at hq
        exact ⟨e1, m1, hr1, hd1, hoff1, hm1, hq⟩
    | _ => exact ⟨e1, m1, hr1, hd1, hoff1, hm1, hq⟩
  | scope c ih => intro Q e m a w D hok hN hr hd h; exact h.elim
  | loop c ih =>
    intro Q e m a w D hok hN hr hd h
    simp only [den] at h
    generalize htr : trk (lvOf lv (wmask c)) = tr at h
    cases hrf : hasRF c with
    | false =>
      rw [hrf, cond_false] at h
      obtain ⟨I, μ, h0, hround⟩ := h
      refine wpIn_loop (fun a' w' => ∃ e', Rep N a' e' ∧ a'.defers = marksD m ++ D ∧ (∀ i, Nat.testBit (wmask c) i = false → e' i = e i) ∧ I (tr.map e') w')
        (fun a' w' => μ (tr.map fun i => a'.tmps.getD i undef) w') ⟨e, hr, hd, fun _ _ => rfl, h0⟩ ?_
      rintro a1 w1 ⟨e1, hr1, hd1, hoff1, hI⟩
      have h1 := hround (tr.map e1) e1 w1 (by simp) hI
      simp only [mix_self hoff1] at h1
      refine wpIn_mono (ih _ e1 m a1 w1 D hok hN hr1 hd1 h1) ?_
      rintro ex a2 w2 ⟨e2, m2, hr2, hd2, hoff2, hm2, hq⟩
      have hoff : ∀ i, Nat.testBit (wmask c) i = false → e2 i = e i := fun i hi => (hoff2 i hi).trans (hoff1 i hi)
      have hmm := hm2 hrf
      subst hmm
      cases ex with
      | normal =>
        obtain ⟨hI2, hlt⟩ := hq
        have g1 : (fun i => a1.tmps.getD i undef) = e1 := funext hr1.get
        have g2 : (fun i => a2.tmps.getD i undef) = e2 := funext hr2.get
        refine ⟨⟨e2, hr2, hd2, hoff, hI2⟩, ?_⟩
        simp only [g1, g2]
        exact hlt
      | _ => exact ⟨e2, m2, hr2, hd2, hoff, fun _ => rfl, hq⟩
    | true =>
      rw [hrf, cond_true] at h
      obtain ⟨I, μ, h0, hround⟩ := h
      refine wpIn_loop (fun a' w' => ∃ e' m', Rep N a' e' ∧ a'.defers = marksD m' ++ D ∧ (∀ i, Nat.testBit (wmask c) i = false → e' i = e i) ∧ I (tr.map e') m' w')
        (fun a' w' => μ (tr.map fun i => a'.tmps.getD i undef) w') ⟨e, m, hr, hd, fun _ _ => rfl, h0⟩ ?_
      rintro a1 w1 ⟨e1, m1, hr1, hd1, hoff1, hI⟩
      have h1 := hround (tr.map e1) m1 e1 w1 (by simp) hI
      simp only [mix_self hoff1] at h1
      refine wpIn_mono (ih _ e1 m1 a1 w1 D hok hN hr1 hd1 h1) ?_
      rintro ex a2 w2 ⟨e2, m2, hr2, hd2, hoff2, hm2, hq⟩
      have hoff : ∀ i, Nat.testBit (wmask c) i = false → e2 i = e i := fun i hi => (hoff2 i hi).trans (hoff1 i hi)
      have hno : hasRF (.loop c) = false → m2 = m := fun hh => by rw [hasRF, hrf] at hh; cases hh
      cases ex with
      | normal =>
        obtain ⟨hI2, hlt⟩ := hq
        have g1 : (fun i => a1.tmps.getD i undef) = e1 := funext hr1.get
        have g2 : (fun i => a2.tmps.getD i undef) = e2 := funext hr2.get
        refine ⟨⟨e2, m2, hr2, hd2, hoff, hI2⟩, ?_⟩
        simp only [g1, g2]
        exact hlt
      | _ => exact ⟨e2, m2, hr2, hd2, hoff, hno, hq⟩
  | rangeFunc f ps assign body _ _ =>
    intro Q e m a w D hok hN hr hd h
    refine wpIn_rangeFunc fun fn _ => ?_
    obtain ⟨l, mk, w1, hen, hcall⟩ := h fn a.tmps hr.size (fun p hp => by
      obtain ⟨i, _, rfl⟩ := List.mem_map.1 hp
      exact hr.get i)
    cases hv : ev e f with
    | func fv first captured =>
      rw [hv] at hcall
      cases fv with
      | func g =>
        simp only [callF] at hcall
        have hres : (resolve a.eval (rangeCall f l) 0).run P w1 = .ok { target := .fn (.func g) captured, args := first ++ #[.func (.yield l) #[] #[]] } w1 := by
          unfold resolve
          have hcl : ev e (.const (.func (.yield l) #[] #[])) = .func (.yield l) #[] #[] := rfl
          simp [hr.eval, hv, Deferred.ofValue, hcl]
        refine ⟨l, marksD mk, w1, _, w1, g, (first.toList ++ [Value.func (.yield l) #[] #[]] ++ captured.toList).toArray, w1, hen, hres, fun _ _ => trivial, ?_, fun hh => by simp [FR, Fence.wide] at hh, ?_⟩
        · simp only [invoke]
          rw [← callFunc_run hcall.1]
          congr 2
          apply Array.ext'; simp
        · refine callsFR.2 (hcall.2.mono ?_)
          rintro en w3 he
          cases en with
          | returned v =>
            obtain ⟨jump, w4, hend, hj⟩ := he
            refine ⟨jump, w4, hend, ?_⟩
            have hd' : (marksD mk ++ a.defers) = marksD (mk ++ m) ++ D := by rw [hd]; simp [marksD]
            have hr' : Rep N { a with defers := marksD mk ++ a.defers } e := ⟨hr.size, hr.get⟩
            have hno : ∀ x : hasRF (.rangeFunc f ps assign body) = false, mk ++ m = m := fun x => by cases x
            have hx : ∀ (l : List Nat) (i : Nat) (w' : World), pickX ((l.map fun i => (i, fun mk => Q (.exit i) e (mk ++ m))).map fun p => (p.1, p.2 mk)) i w' → Q (.exit i) e (mk ++ m) w' := by
              intro l i w' hp
              induction l with
              | nil => exact hp.elim
              | cons j l ih =>
                simp only [List.map_cons, pickX] at hp
                cases hb : Nat.beq i j with
                | true => rw [hb, cond_true] at hp; rw [Nat.eq_of_beq_eq_true hb]; exact hp
                | false => rw [hb, cond_false] at hp; exact ih hp
            unfold jumpN at hj
            split at hj
            · exact ⟨e, mk ++ m, hr', hd', fun _ _ => rfl, hno, hj⟩
            · exact wpIn_ret ⟨e, mk ++ m, hr', hd', fun _ _ => rfl, hno, hj⟩
            · exact wpIn_exit ⟨e, mk ++ m, hr', hd', fun _ _ => rfl, hno, hx _ _ _ hj⟩
            · exact hj.elim
          | panicked c => exact he.elim
          | outgrown => exact he.elim
      | _ => exact hcall.elim
    | _ => rw [hv] at hcall; exact hcall.elim
end Go.Dn
