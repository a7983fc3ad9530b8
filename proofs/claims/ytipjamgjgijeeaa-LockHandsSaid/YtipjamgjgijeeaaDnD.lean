/-
  Own framework, part D: the denotation of a region that draws its order.
  Conditions: none; general over any program.
-/
import Derived.Test.YtipjamgjgijeeaaDnC
namespace Go.Dn
set_option linter.unusedSimpArgs false
set_option linter.unusedVariables false
variable {P : Program} {ro : Option Nat}

def bit (i : Nat) : Nat := Nat.shiftLeft 1 i
def predMask (o : Oper) : Nat := o.after.toList.foldr (fun e m => bif Region.binds .any e then Nat.lor (bit e.on) m else m) 0
def upMask (bm : List Nat) (o : Oper) : Nat := o.after.toList.foldr (fun e m => bif Region.binds .any e then Nat.lor (Nat.lor (bit e.on) (bm.getD e.on 0)) m else m) 0
def befGo : List Nat → List Oper → List Nat
  | acc, [] => acc
  | acc, o :: os => befGo (acc ++ [upMask acc o]) os
def befs (ops : List Oper) : List Nat := befGo [] ops
def rdy (i : Nat) (o : Oper) (mask : Nat) : Bool := bif Nat.testBit mask i then false else Nat.beq (Nat.land (predMask o) mask) (predMask o)
def firstQ : List Oper → Nat → Nat → Option (Nat × Oper)
  | [], _, _ => none
  | o :: os, i, mask => bif (isQ o && rdy i o mask) then some (i, o) else firstQ os (i + 1) mask
def readyL : List Oper → Nat → Nat → List (Nat × Oper)
  | [], _, _ => []
  | o :: os, i, mask => bif rdy i o mask then (i, o) :: readyL os (i + 1) mask else readyL os (i + 1) mask
def chks (bm : List Nat) (i : Nat) : List (Nat × W) → W → W
  | [], K => K
  | (r, c) :: ps, K => bif Nat.testBit (bm.getD i 0) r then chks bm i ps K else andW c (chks bm i ps K)
def gval (all : List Oper) (o : Oper) (e : Env) : Option (Value × Bool) := match o.guard with
  | none => none
  | some (g, b) => match gdst all g with
    | some d => some (e d, b)
    | none => some (undef, b)
def allW (F : Nat × Oper → W) : List (Nat × Oper) → W
  | [] => fun _ => True
  | [x] => F x
  | x :: xs => both (F x) (allW F xs)
/-- What is laid up to be read again. -/
def pendOf (P : Program) (all : List Oper) (i : Nat) (o : Oper) (e : Env) (v : Value) (pend : List (Nat × W)) : List (Nat × W) := match opK e o with
  | .rd s => (i, ck P (gval all o e) s v) :: pend
  | _ => pend
def denDraw (P : Program) (all : List Oper) (bm : List Nat) : Nat → Nat → List (Nat × W) → (Env → W) → Env → W
  | 0, mask, _, K, e => match readyL all 0 mask with
    | [] => K e
    | _ => fun _ => False
  | f + 1, mask, pend, K, e => match firstQ all 0 mask with
    | some (i, o) => opG P all o e fun v => denDraw P all bm f (Nat.lor mask (bit i)) (pendOf P all i o e v pend) K (upo e o.dst v)
    | none => match readyL all 0 mask with
      | [] => K e
      | l => allW (fun x => opG P all x.2 e fun v => chks bm x.1 pend (denDraw P all bm f (Nat.lor mask (bit x.1)) pend K (upo e x.2.dst v))) l

/-! ## Static tests -/
def plainOp (o : Oper) : Bool := match o.op with
  | .select .. => false
  | .defer _ => false
  | _ => true
def allIdx {α : Type} (f : Nat → α → Bool) : Nat → List α → Bool
  | _, [] => true
  | i, x :: xs => f i x && allIdx f (i + 1) xs
theorem allIdx_spec {α : Type} {f : Nat → α → Bool} : ∀ {l : List α} {k : Nat}, allIdx f k l = true → ∀ (j : Nat) (x : α), l[j]? = some x → f (k + j) x = true
  | [], _, _, j, x, h => by simp at h
  | y :: l, k, h, j, x, hx => by
    simp only [allIdx, Bool.and_eq_true] at h
    cases j with
    | zero => simp at hx; subst hx; exact h.1
    | succ j =>
      have := allIdx_spec h.2 j x (by simpa using hx)
      rwa [show k + 1 + j = k + (j + 1) from by omega] at this
def drawOk (ops : List Oper) (bm : List Nat) : Bool :=
  ops.all plainOp && Nat.beq bm.length ops.length && allIdx (fun i o => Nat.beq (bm.getD i 0) (upMask bm o)) 0 ops &&
  allIdx (fun i oi => bif isQ oi then allIdx (fun j oj => bif Nat.beq i j then true else bif Nat.testBit (bm.getD j 0) i then true else bif Nat.testBit (bm.getD i 0) j then true else oi.apart ops.toArray oj) 0 ops else true) 0 ops

theorem bit_test (i j : Nat) : (bit i).testBit j = decide (i = j) := by
  show (1 <<< i).testBit j = _
  rw [Nat.testBit_shiftLeft]
  have h1 : (1 : Nat).testBit (j - i) = decide (j - i = 0) := by
    rw [show (1 : Nat) = 2 ^ 0 from rfl, Nat.testBit_two_pow]
    simp [eq_comm]
  rw [h1]
  by_cases h : i = j
  · subst h; simp
  · simp only [h, decide_false, Bool.and_eq_false_iff, decide_eq_false_iff_not]; omega
theorem lor_test (a b i : Nat) : (Nat.lor a b).testBit i = (a.testBit i || b.testBit i) := Nat.testBit_or a b i
theorem upMask_test {bm : List Nat} {o : Oper} {r : Nat} (h : (upMask bm o).testBit r = true) :
    ∃ e ∈ o.after, Region.binds .any e = true ∧ (r = e.on ∨ (bm.getD e.on 0).testBit r = true) := by
  unfold upMask at h
  have key : ∀ (l : List Edge), (l.foldr (fun e m => bif Region.binds .any e then Nat.lor (Nat.lor (bit e.on) (bm.getD e.on 0)) m else m) 0).testBit r = true →
      ∃ e ∈ l, Region.binds .any e = true ∧ (r = e.on ∨ (bm.getD e.on 0).testBit r = true) := by
    intro l
    induction l with
    | nil => intro h; simp at h
    | cons e l ih =>
      intro h
      simp only [List.foldr_cons] at h
      cases hb : Region.binds .any e with
      | false =>
        rw [hb, cond_false] at h
        obtain ⟨e', he', h'⟩ := ih h
        exact ⟨e', .tail _ he', h'⟩
      | true =>
        rw [hb, cond_true, lor_test, lor_test, bit_test] at h
        simp only [Bool.or_eq_true, decide_eq_true_eq] at h
        rcases h with (h | h) | h
        · exact ⟨e, .head _, hb, .inl h.symm⟩
        · exact ⟨e, .head _, hb, .inr h⟩
        · obtain ⟨e', he', h'⟩ := ih h
          exact ⟨e', .tail _ he', h'⟩
  obtain ⟨e, he, h'⟩ := key _ h
  exact ⟨e, by simpa using he, h'⟩
theorem drawOk_bm {ops : Array Oper} {bm : List Nat} (h : drawOk ops.toList bm = true) : BmOk ops bm := by
  simp only [drawOk, Bool.and_eq_true] at h
  obtain ⟨⟨⟨_, hl⟩, hu⟩, _⟩ := h
  have hl' := Nat.eq_of_beq_eq_true hl
  intro i r hr
  unfold bmt at hr
  have hi : i < ops.size := by
    rcases Nat.lt_or_ge i ops.size with h1 | h1
    · exact h1
    · have : bm.getD i 0 = 0 := by
        rw [List.getD_eq_getElem?_getD, List.getElem?_eq_none (by rw [hl']; simpa using h1)]; rfl
      rw [this] at hr; simp at hr
  have ho : ops[i]? = some ops[i] := Array.getElem?_eq_getElem hi
  have h2 := allIdx_spec hu i ops[i] (by simp [hi])
  have h3 := Nat.eq_of_beq_eq_true h2
  rw [Nat.zero_add] at h3
  rw [h3] at hr
  exact ⟨_, ho, upMask_test hr⟩
theorem drawOk_plain {ops : Array Oper} {bm : List Nat} (h : drawOk ops.toList bm = true) (j : Nat) (o : Oper) (hj : ops[j]? = some o) :
    (∀ cs b, o.op ≠ .select cs b) ∧ (∀ c, o.op ≠ .defer c) := by
  simp only [drawOk, Bool.and_eq_true] at h
  have h1 := List.all_eq_true.1 h.1.1.1 o (by simpa using Array.mem_of_getElem? hj)
  unfold plainOp at h1
  constructor
  · intro cs b hc; rw [hc] at h1; cases h1
  · intro c hc; rw [hc] at h1; cases h1
theorem drawOk_apart {ops : Array Oper} {bm : List Nat} (h : drawOk ops.toList bm = true) {i : Nat} {oi : Oper} (hi : ops[i]? = some oi) (hq : isQ oi = true)
    (j : Nat) (oj : Oper) (hj : ops[j]? = some oj) (hji : j ≠ i) (h1 : bmt bm i j = false) (h2 : bmt bm j i = false) : oi.apart ops oj = true := by
  simp only [drawOk, Bool.and_eq_true] at h
  have h3 := allIdx_spec h.2 i oi (by simpa using hi)
  rw [hq, cond_true] at h3
  have h4 := allIdx_spec h3 j oj (by simpa using hj)
  rw [Nat.zero_add, Nat.zero_add] at h4
  unfold bmt at h1 h2
  have h5 : Nat.beq i j = false := by
    cases hh : Nat.beq i j with
    | false => rfl
    | true => exact absurd (Nat.eq_of_beq_eq_true hh).symm hji
  rw [h5, h1, h2] at h4
  simpa using h4

/-! ## Soundness -/
structure Lst (n : Nat) (A : Array Bool) (mask : Nat) : Prop where
  size : A.size = n
  get : ∀ i, A.getD i false = mask.testBit i
theorem Lst.set {n : Nat} {A : Array Bool} {mask : Nat} (h : Lst n A mask) {i : Nat} (hi : i < n) : Lst n (A.setIfInBounds i true) (Nat.lor mask (bit i)) := by
  refine ⟨by simp [h.size], fun j => ?_⟩
  rw [lor_test, bit_test]
  by_cases hij : i = j
  · subst hij; simp [Array.getD_eq_getD_getElem?, h.size, hi]
  · rw [getD_set_ne false hij, h.get]; simp [hij]
theorem predMask_iff {o : Oper} {mask : Nat} : Nat.beq (Nat.land (predMask o) mask) (predMask o) = true ↔ ∀ e ∈ o.after, Region.binds .any e = true → mask.testBit e.on = true := by
  have key : ∀ (l : List Edge) (r : Nat), (l.foldr (fun e m => bif Region.binds .any e then Nat.lor (bit e.on) m else m) 0).testBit r = true ↔
      ∃ e ∈ l, Region.binds .any e = true ∧ e.on = r := by
    intro l r
    induction l with
    | nil => simp
    | cons e l ih =>
      simp only [List.foldr_cons]
      cases hb : Region.binds .any e with
      | false => rw [cond_false, ih]; simp [hb]
      | true => rw [cond_true, lor_test, bit_test]; simp only [Bool.or_eq_true, decide_eq_true_eq, ih, List.mem_cons, exists_eq_or_imp, hb, true_and]
  constructor
  · intro h e he hb
    have h1 := Nat.eq_of_beq_eq_true h
    have h2 : (predMask o).testBit e.on = true := (key _ _).2 ⟨e, by simpa using he, hb, rfl⟩
    rw [← h1] at h2
    have h3 : (Nat.land (predMask o) mask).testBit e.on = ((predMask o).testBit e.on && mask.testBit e.on) := Nat.testBit_and ..
    rw [h3] at h2
    simp only [Bool.and_eq_true] at h2
    exact h2.2
  · intro h
    have : Nat.land (predMask o) mask = predMask o := by
      apply Nat.eq_of_testBit_eq
      intro r
      have h3 : (Nat.land (predMask o) mask).testBit r = ((predMask o).testBit r && mask.testBit r) := Nat.testBit_and ..
      rw [h3]
      cases hp : (predMask o).testBit r with
      | false => rfl
      | true =>
        obtain ⟨e, he, hb, hr⟩ := (key _ _).1 hp
        subst hr
        simp [h e (by simpa using he) hb]
    rw [this]
    exact Nat.beq_refl _
theorem ready_iff {ops : Array Oper} {A : Array Bool} {mask : Nat} (h : Lst ops.size A mask) {i : Nat} : i ∈ Region.ready .any ops A ↔ ∃ o, ops[i]? = some o ∧ rdy i o mask = true := by
  rw [mem_ready]
  constructor
  · rintro ⟨h1, o, ho, h2⟩
    refine ⟨o, ho, ?_⟩
    have h3 : mask.testBit i = false := by rw [← h.get]; exact getD_tf h1
    unfold rdy
    rw [show Nat.testBit mask i = false from h3, cond_false]
    exact predMask_iff.2 fun e he hb => by rw [← h.get]; exact h2 e he hb
  · rintro ⟨o, ho, hr⟩
    unfold rdy at hr
    cases h3 : Nat.testBit mask i with
    | true => rw [h3] at hr; cases hr
    | false =>
      rw [h3, cond_false] at hr
      have hi : i < A.size := by rw [h.size]; exact (Array.getElem?_eq_some_iff.1 ho).1
      refine ⟨?_, o, ho, fun e he hb => by rw [h.get]; exact predMask_iff.1 hr e he hb⟩
      have := h.get i
      rw [h3] at this
      simp [hi] at this ⊢
      exact this
theorem firstQ_some : ∀ {l : List Oper} {k mask i : Nat} {o : Oper}, firstQ l k mask = some (i, o) → ∃ j, i = k + j ∧ l[j]? = some o ∧ isQ o = true ∧ rdy i o mask = true
  | [], _, _, _, _, h => by simp [firstQ] at h
  | x :: l, k, mask, i, o, h => by
    simp only [firstQ] at h
    cases hx : (isQ x && rdy k x mask) with
    | true =>
      rw [hx, cond_true] at h
      cases h
      simp only [Bool.and_eq_true] at hx
      exact ⟨0, rfl, rfl, hx.1, hx.2⟩
    | false =>
      rw [hx, cond_false] at h
      obtain ⟨j, h1, h2, h3⟩ := firstQ_some h
      exact ⟨j + 1, by omega, by simpa using h2, h3⟩
theorem mem_readyL : ∀ {l : List Oper} {k mask i : Nat} {o : Oper}, (i, o) ∈ readyL l k mask ↔ ∃ j, i = k + j ∧ l[j]? = some o ∧ rdy i o mask = true
  | [], _, _, _, _ => by simp [readyL]
  | x :: l, k, mask, i, o => by
    simp only [readyL]
    have ih := mem_readyL (l := l) (k := k + 1) (mask := mask) (i := i) (o := o)
    have split : (∃ j, i = k + j ∧ (x :: l)[j]? = some o ∧ rdy i o mask = true) ↔ ((i = k ∧ x = o ∧ rdy i o mask = true) ∨ ∃ j, i = k + 1 + j ∧ l[j]? = some o ∧ rdy i o mask = true) := by
      constructor
      · rintro ⟨j, h1, h2, h3⟩
        cases j with
        | zero => exact .inl ⟨h1, by simpa using h2, h3⟩
        | succ j => exact .inr ⟨j, by omega, by simpa using h2, h3⟩
      · rintro (⟨h1, h2, h3⟩ | ⟨j, h1, h2, h3⟩)
        · exact ⟨0, h1, by simpa using h2, h3⟩
        · exact ⟨j + 1, by omega, by simpa using h2, h3⟩
    rw [split]
    cases hx : rdy k x mask with
    | true =>
      rw [cond_true, List.mem_cons, ih]
      constructor
      · rintro (h | h)
        · cases h; exact .inl ⟨rfl, rfl, hx⟩
        · exact .inr h
      · rintro (⟨rfl, rfl, _⟩ | h)
        · exact .inl rfl
        · exact .inr h
    | false =>
      rw [cond_false, ih]
      constructor
      · exact .inr
      · rintro (⟨rfl, rfl, h⟩ | h)
        · rw [hx] at h; cases h
        · exact h
theorem chks_spec {bm : List Nat} {i : Nat} : ∀ {pend : List (Nat × W)} {K : W} {w : World}, chks bm i pend K w → K w ∧ ∀ p ∈ pend, bmt bm p.1 i = false → p.2 w
  | [], _, _, h => ⟨h, fun _ hp => by cases hp⟩
  | (r, c) :: ps, K, w, h => by
    simp only [chks] at h
    cases hb : Nat.testBit (bm.getD i 0) r with
    | true =>
      rw [hb, cond_true] at h
      obtain ⟨h1, h2⟩ := chks_spec h
      refine ⟨h1, fun p hp hf => ?_⟩
      cases hp with
      | head => unfold bmt at hf; rw [hb] at hf; cases hf
      | tail _ hp => exact h2 p hp hf
    | false =>
      rw [hb, cond_false] at h
      obtain ⟨h0, h⟩ := h
      obtain ⟨h1, h2⟩ := chks_spec h
      refine ⟨h1, fun p hp hf => ?_⟩
      cases hp with
      | head => exact h0
      | tail _ hp => exact h2 p hp hf
theorem allW_mem {F : Nat × Oper → W} {w : World} : ∀ {l : List (Nat × Oper)}, allW F l w → ∀ x ∈ l, F x w
  | [], _, _, hx => by cases hx
  | [y], h, x, hx => by simp only [List.mem_singleton] at hx; subst hx; exact h
  | y :: z :: l, h, x, hx => by
    obtain ⟨h1, h2⟩ := h
    cases hx with
    | head => exact h1
    | tail _ hx => exact allW_mem (l := z :: l) h2 x hx
theorem isQ_kind {o : Oper} (e : Env) (h : isQ o = true) : (∃ v, opK e o = .val v) ∨ (∃ s, opK e o = .pu s) ∨ (∃ s, opK e o = .rd s) := by
  unfold isQ at h
  unfold opK
  cases ho : o.op <;> simp only [ho] at h ⊢ <;> first
    | (cases h; done)
    | exact .inl ⟨_, rfl⟩
    | exact .inr (.inl ⟨_, rfl⟩)
    | exact .inr (.inr ⟨_, rfl⟩)
    | skip
  case binOp op t x y ty =>
    cases op <;> simp only <;> first
      | exact .inr (.inl ⟨_, rfl⟩)
      | (cases hc : (isC x || isC y)
         · exact .inr (.inr ⟨_, rfl⟩)
         · exact .inr (.inl ⟨_, rfl⟩))
  case call c =>
    cases hc : c.callee <;> simp only [hc] at h ⊢ <;> first
      | (cases h; done)
      | skip
    rename_i b
    cases b <;> simp only [biK] at h ⊢ <;> first
      | (cases h; done)
      | exact .inr (.inl ⟨_, rfl⟩)
      | exact .inr (.inr ⟨_, rfl⟩)
theorem gval_off {all : List Oper} {o : Oper} {e : Env} (h : gok all o e = false) : ∃ x b, gval all o e = some (x, b) ∧ x ≠ .bool b := by
  unfold gok at h
  unfold gval
  cases hg : o.guard with
  | none => rw [hg] at h; cases h
  | some gb =>
    obtain ⟨g, b⟩ := gb
    rw [hg] at h
    simp only at h ⊢
    cases hd : gdst all g with
    | none => exact ⟨undef, b, rfl, by simp [undef]⟩
    | some d =>
      rw [hd] at h
      refine ⟨e d, b, rfl, fun hh => ?_⟩
      simp only [hh, isB] at h
      simp at h
theorem gval_on {all : List Oper} {o : Oper} {e : Env} (h : gok all o e = true) : (match gval all o e with
    | none => True
    | some (x, b) => x = .bool b) := by
  unfold gok at h
  unfold gval
  cases hg : o.guard with
  | none => trivial
  | some gb =>
    obtain ⟨g, b⟩ := gb
    rw [hg] at h
    simp only at h ⊢
    cases hd : gdst all g with
    | none => rw [hd] at h; cases h
    | some d =>
      rw [hd] at h
      simp only [isB] at h ⊢
      cases hv : e d <;> rw [hv] at h <;> first | (cases h; done) | skip
      simp at h
      rw [h]
/-- What a quiet operation of a kind comes to. -/
theorem quiet_op {N : Nat} {ops : Array Oper} {a : Act} {e : Env} {i : Nat} {o : Oper} {K : Value → W} {w : World} {pend : List (Nat × W)} (hr : Rep N a e) (hq : isQ o = true)
    (h : opG P ops.toList o e K w) : ∃ (v : Value) (φ : W), K v w ∧ φ w ∧ (∀ w', φ w' → YldQ P ops o v a w') ∧
      ((pendOf P ops.toList i o e v pend = (i, φ) :: pend) ∨ (pendOf P ops.toList i o e v pend = pend ∧ ∀ w', φ w')) := by
  rw [opG_eq] at h
  have hw := wanted_rep (ops := ops) (o := o) hr
  have hk := isQ_kind e hq
  unfold YldQ
  rw [hw, hr.eval]
  cases hg : gok ops.toList o e with
  | false =>
    rw [hg] at h
    simp only [Bool.false_eq_true, if_false] at h
    obtain ⟨x, b, h1, h2⟩ := gval_off hg
    unfold pendOf
    rcases hk with ⟨v, hk⟩ | ⟨s, hk⟩ | ⟨s, hk⟩ <;> rw [hk]
    · exact ⟨undef, fun _ => True, h, trivial, fun _ _ => .inr ⟨rfl, rfl⟩, .inr ⟨rfl, fun _ => trivial⟩⟩
    · exact ⟨undef, fun _ => True, h, trivial, fun _ _ => .inr ⟨rfl, rfl⟩, .inr ⟨rfl, fun _ => trivial⟩⟩
    · exact ⟨undef, ck P (gval ops.toList o e) s undef, h, (fun hh => by rw [h1] at hh; exact absurd hh h2), fun _ _ => .inr ⟨rfl, rfl⟩, .inl rfl⟩
  | true =>
    rw [hg, if_pos rfl] at h
    unfold pendOf
    rcases hk with ⟨v, hk⟩ | ⟨s, hk⟩ | ⟨s, hk⟩ <;> rw [hk] at h ⊢
    · exact ⟨v, fun _ => True, h, trivial, fun w' _ => .inl ⟨rfl, opK_value (by rw [hk]; exact ⟨rfl, rfl⟩)⟩, .inr ⟨rfl, fun _ => trivial⟩⟩
    · obtain ⟨v, h1, h2⟩ := h
      exact ⟨v, fun _ => True, h2, trivial, fun w' _ => .inl ⟨rfl, opK_value (by rw [hk]; exact ⟨h1, rfl⟩)⟩, .inr ⟨rfl, fun _ => trivial⟩⟩
    · obtain ⟨v, h1, h2⟩ := h
      exact ⟨v, ck P (gval ops.toList o e) s v, h2, fun _ => h1, fun w' hh => .inl ⟨rfl, opK_value (by rw [hk]; exact ⟨hh (gval_on hg), rfl⟩)⟩, .inl rfl⟩

theorem denDraw_sound {N : Nat} {ops : Array Oper} {bm : List Nat} (hok : drawOk ops.toList bm = true) (hN : ∀ i, (omask ops.toList).testBit i = true → i < N)
    (Q : Act → World → Prop) (D : List Deferred) (e0 : Env) (K : Env → W)
    (hQ : ∀ e' a' w', Rep N a' e' → a'.defers = D → (∀ i, (omask ops.toList).testBit i = false → e' i = e0 i) → K e' w' → Q a' w') :
    ∀ (f mask : Nat) (pend : List (Nat × W)) (e : Env) (a : Act) (w : World) (A : Array Bool), Lst ops.size A mask → Closed bm A → Rep N a e → a.defers = D →
      (∀ i, (omask ops.toList).testBit i = false → e i = e0 i) → denDraw P ops.toList bm f mask pend K e w → wpX ro P ops bm Q f A pend a w := by
  have hb := drawOk_bm hok
  have hdst : ∀ {i : Nat} {o : Oper}, ops[i]? = some o → ∀ x, o.dst = some x → (omask ops.toList).testBit x = true := by
    intro i o hi x hx
    have hm : o ∈ ops.toList := by simpa using Array.mem_of_getElem? hi
    revert hm
    generalize ops.toList = l
    intro hm
    induction l with
    | nil => cases hm
    | cons y l ih =>
      rw [omask_cons]
      cases hm with
      | head => rw [hx]; simp
      | tail _ hm => rw [ih hm]; simp
  have hoff : ∀ {i : Nat} {o : Oper} {e : Env} {v : Value}, ops[i]? = some o → (∀ j, (omask ops.toList).testBit j = false → e j = e0 j) →
      ∀ j, (omask ops.toList).testBit j = false → upo e o.dst v j = e0 j := by
    intro i o e v hi he j hj
    rw [upo_off (fun x hx hxj => by subst hxj; rw [hdst hi x hx] at hj; cases hj)]
    exact he j hj
  intro f
  induction f with
  | zero =>
    intro mask pend e a w A hA hc hr hd he h
    simp only [denDraw] at h
    cases hl : readyL ops.toList 0 mask with
    | nil =>
      rw [hl] at h
      refine ⟨?_, hQ e a w hr hd he h⟩
      cases hrd : Region.ready .any ops A with
      | nil => rfl
      | cons i rest =>
        have hi : i ∈ Region.ready .any ops A := by rw [hrd]; exact .head _
        obtain ⟨o, ho, h2⟩ := (ready_iff hA).1 hi
        have : (i, o) ∈ readyL ops.toList 0 mask := mem_readyL.2 ⟨i, by omega, by simpa using ho, h2⟩
        rw [hl] at this; cases this
    | cons x l => rw [hl] at h; exact h.elim
  | succ f ih =>
    intro mask pend e a w A hA hc hr hd he h
    simp only [denDraw] at h
    cases hq : firstQ ops.toList 0 mask with
    | some x =>
      obtain ⟨i, o⟩ := x
      rw [hq] at h
      obtain ⟨j, hj, hoi, hqo, hrdy⟩ := firstQ_some hq
      rw [Nat.zero_add] at hj
      subst hj
      have hi : ops[i]? = some o := by simpa using hoi
      obtain ⟨v, φ, hK, hφ, hy, hp⟩ := quiet_op (i := i) (pend := pend) hr hqo h
      have hlt : i < ops.size := (Array.getElem?_eq_some_iff.1 hi).1
      have hready : i ∈ Region.ready .any ops A := (ready_iff hA).2 ⟨o, hi, hrdy⟩
      have hrec := ih _ _ _ (a.put o.dst v) w _ (hA.set hlt) (hc.set hb hready) (hr.put (fun x hx => hN x (hdst hi x hx)) v) (by rw [← hd]; cases o.dst <;> rfl) (hoff hi he) hK
      refine wpX_first hi hb (fun j o' hj => drawOk_plain hok j o' hj) (fun j oj hj hji h1 h2 => drawOk_apart hok hi hqo j oj hj hji h1 h2) f A pend a w hc hready hφ hy ?_
      rcases hp with hp | ⟨hp, hall⟩
      · rw [hp] at hrec; exact hrec
      · rw [hp] at hrec
        have stren : ∀ (f : Nat) (A : Array Bool) (a : Act) (w : World), wpX ro P ops bm Q f A pend a w → wpX ro P ops bm Q f A ((i, φ) :: pend) a w := by
          intro f
          induction f with
          | zero => intro A a w h; exact h
          | succ f ih =>
            intro A a w h
            refine ⟨h.1, fun k hk => wpOpIn_mono (fun a' w' hh => ⟨hh.1.imp id (fun h2 p hp hf => ?_), ih _ _ _ hh.2⟩) (h.2 k hk)⟩
            cases hp with
            | head => exact hall w'
            | tail _ hp => exact h2 p hp hf
        exact stren _ _ _ _ hrec
    | none =>
      rw [hq] at h
      refine ⟨fun hrd => ?_, fun i hi => ?_⟩
      · cases hl : readyL ops.toList 0 mask with
        | nil => rw [hl] at h; exact hQ e a w hr hd he h
        | cons x l =>
          obtain ⟨i, o⟩ := x
          have : (i, o) ∈ readyL ops.toList 0 mask := by rw [hl]; exact .head _
          obtain ⟨j, hj, hoi, hrdy⟩ := mem_readyL.1 this
          rw [Nat.zero_add] at hj
          subst hj
          have : i ∈ Region.ready .any ops A := (ready_iff hA).2 ⟨o, by simpa using hoi, hrdy⟩
          rw [hrd] at this; cases this
      · obtain ⟨o, ho, hrdy⟩ := (ready_iff hA).1 hi
        have hm : (i, o) ∈ readyL ops.toList 0 mask := mem_readyL.2 ⟨i, by omega, by simpa using ho, hrdy⟩
        have h1 : opG P ops.toList o e (fun v => chks bm i pend (denDraw P ops.toList bm f (Nat.lor mask (bit i)) pend K (upo e o.dst v))) w := by
          cases hl : readyL ops.toList 0 mask with
          | nil => rw [hl] at hm; cases hm
          | cons x l =>
            rw [hl] at h hm
            exact allW_mem h (i, o) hm
        have hlt : i < ops.size := (Array.getElem?_eq_some_iff.1 ho).1
        unfold wpOpIn
        rw [ho]
        refine opG_sound (ops := ops) hr h1 _ (fun a' w' => (w' = w ∨ ∀ p ∈ pend, bmt bm p.1 i = false → p.2 w') ∧ wpX ro P ops bm Q f (A.setIfInBounds i true) pend a' w') fun v w' hK => ?_
        obtain ⟨h2, h3⟩ := chks_spec hK
        exact ⟨.inr h3, ih _ _ _ _ _ _ (hA.set hlt) (hc.set hb hi) (hr.put (fun x hx => hN x (hdst ho x hx)) v) (by rw [← hd]; cases o.dst <;> rfl) (hoff ho he) h2⟩
end Go.Dn
