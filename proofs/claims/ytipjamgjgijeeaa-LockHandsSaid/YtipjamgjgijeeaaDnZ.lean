/-
  Own framework, part Z: from a handed-in world to the assertions, and back.
  Conditions: none; general over any program.
-/
import Derived.Test.YtipjamgjgijeeaaDnQ
import Derived.ProofKit
import Derived.OpenShut
set_option linter.unusedSectionVars false
set_option synthInstance.maxSize 10000
set_option synthInstance.maxHeartbeats 400000
set_option maxHeartbeats 2000000
namespace Go.Dn
set_option linter.unusedSimpArgs false
set_option linter.unusedVariables false
open Go.RowKit Go.ChangeShapes Go.ChangeAt Go.WideShapes
variable {P : Program}

/-- The world that a call of no mean leaves: nothing of what was there has turned. -/
def fin (W : World) (Q : Value → Prop) : Value → Go.Dn.W := fun v w => Q v ∧ Below W.heap.size W w
theorem below_of {W w : World} (hs : Same W w) (h : ∀ i o, hof W i = some o → hof w i = some o) : Below W.heap.size W w := by
  refine ⟨hs.os, hs.tape, hs.output, ?_, fun k hk => ?_⟩
  · apply Nat.le_of_not_lt
    intro hlt
    have h1 : hof W w.heap.size = some W.heap[w.heap.size] := by simp [hof, hlt]
    have h2 := h _ _ h1
    simp [hof] at h2
  · have h1 : hof W k = some W.heap[k] := by simp [hof, hk]
    have h2 := h _ _ h1
    have e1 : w.heap[k]? = some W.heap[k] := h2
    rw [e1]; simp [hk]
@[reducible] def sideOf (W : World) : Side := ⟨Same W, fun h1 h2 => ⟨h1.os.trans h2.os, h1.tape.trans h2.tape, h1.output.trans h2.output⟩⟩
theorem outer_calls {f : FuncId} {args : List Value} {W : World} {Q : Value → Prop} (he : enters P f = true)
    (h : ∀ (sd : Side) (K : Value → Go.Dn.W), (∀ v, Q v → @Ent sd [own (hof W)] (K v)) → @Ent sd [own (hof W)] (callC P f args K)) :
    Calls P f args.toArray W fun e W' => ∃ v, e = .returned v ∧ Q v ∧ Below W.heap.size W W' := by
  have h1 := h (sideOf W) (fin W Q) (fun v hv w hw => ⟨hv, below_of hw.2 fun i o hi => by
    obtain ⟨h1, h2, d, e, ha, _⟩ := hw.1
    subst ha
    show hof w i = some o
    rw [e]
    exact uni_l i o hi⟩) W ⟨⟨hof W, fun _ => none, fun i => .inr rfl, by funext i; simp [uni], rfl, trivial⟩, ⟨rfl, rfl, rfl⟩⟩
  exact (callE_of he h1).2.mono fun e w' he => by
    unfold ret1 at he
    cases e with
    | returned v => exact ⟨v, rfl, he⟩
    | _ => exact he.elim

/-! ## Reading -/
class NPos (n : Nat) : Prop where
  out : 0 < n
instance NPos.int {k : IntKind} : NPos (cInt k).n := ⟨by show 0 < 1; omega⟩
instance NPos.u8 : NPos cU8.n := ⟨by show 0 < 1; omega⟩
instance NPos.bool : NPos cBool.n := ⟨by show 0 < 1; omega⟩
instance NPos.sl : NPos cSl.n := ⟨by show 0 < 1; omega⟩
class RdT (P : Program) (t : TypeId) {α : Type} (c : Cd α) (G : outParam (Hp → α → Prop)) : Prop where
  out : ∀ {H : Type} {enc : TypeId × Value → H} {w : World} {sp : Nat → Bool} {held : Bool} {fuel : Nat} {cs : List Value} {x : DataW H × List MemPlace},
    DataW.trod enc P w 0 sp held fuel t cs = some x → ∃ a, cs = c.cells a ∧ G (hof w) a
def GInt (k : IntKind) : Hp → Int → Prop := fun _ n => k.min ≤ n ∧ n ≤ k.max
def GTrue {α : Type} : Hp → α → Prop := fun _ _ => True
instance RdT.int {t : TypeId} {k : IntKind} [it : InT P t k] : RdT P t (cInt k) (GInt k) :=
  ⟨fun h => by
    obtain ⟨n, rfl, _, hw⟩ := DataW.trod_int it.und h
    refine ⟨n, rfl, ?_⟩
    simp only [Lit.wf, IntKind.has, Bool.and_eq_true, decide_eq_true_eq] at hw
    exact hw⟩
instance RdT.u8 {t : TypeId} [it : InT P t .u8] : RdT P t cU8 GTrue :=
  ⟨fun h => by
    obtain ⟨n, rfl, hg⟩ := (RdT.int (k := .u8)).out h
    have h0 : 0 ≤ n := hg.1
    have h1 : n ≤ 255 := hg.2
    refine ⟨bt n, ?_, trivial⟩
    show [Value.int .u8 n] = [Value.int .u8 _]
    rw [bt_toNat h0 h1]⟩
class BoT (P : Program) (t : TypeId) : Prop where
  und : P.underlying t = some .bool
instance RdT.bool {t : TypeId} [bt : BoT P t] : RdT P t cBool GTrue :=
  ⟨fun {H enc w sp held fuel cs x} h => by
    cases fuel with
    | zero => simp [DataW.trod] at h
    | succ n =>
      unfold DataW.trod at h
      rw [bt.und] at h
      split at h
      all_goals first | exact ⟨_, rfl, trivial⟩ | simp_all⟩
theorem cellsOf_ty {t : TypeId} {α : Type} {c : Cd α} {z : α} {bytes : Nat} [ty : Ty P t c z bytes] : P.cellsOf t = c.n := by
  obtain ⟨i, hi, hs, _⟩ := ty.info
  simp [Program.cellsOf, hi, hs]
theorem cell_of {w : World} {a : Addr} {v : Value} (h : w.cell? a = some v) : ∃ (l : List Value) (T : TypeId) (fz : Nat × Nat), hof w a.block = some (.cells l.toArray T fz) ∧ a.spot = none ∧ l[a.off]? = some v := by
  unfold World.cell? at h
  split at h
  · rename_i c T fz hc
    split at h
    · cases h
    · rename_i hs
      refine ⟨c.toList, T, fz, by simpa [hof] using hc, by simpa using hs, by simpa using h⟩
  · cases h
theorem mapM_get {α β : Type} {f : α → Option β} : ∀ {l : List α} {r : List β}, l.mapM f = some r → r.length = l.length ∧ ∀ (i : Nat) (a : α), l[i]? = some a → f a = r[i]?
  | [], r, h => by simp at h; subst h; simp
  | x :: l, r, h => by
    rw [List.mapM_cons] at h
    simp only [Option.bind_eq_bind, Option.bind_eq_some_iff, Option.pure_def, Option.some.injEq] at h
    obtain ⟨y, hy, ys, hys, rfl⟩ := h
    obtain ⟨h1, h2⟩ := mapM_get hys
    refine ⟨by simp [h1], fun i a hi => ?_⟩
    cases i with
    | zero => simp at hi; subst hi; simpa using hy
    | succ i => simpa using h2 i a (by simpa using hi)
/-- A row of cells, and the block they lie in. -/
theorem cells_of {w : World} {a : Addr} {n : Nat} {cs : List Value} (h : w.cells? 0 a n = some cs) : cs.length = n ∧ ∀ i, i < n → w.cell? (a.add i) = cs[i]? := by
  unfold World.cells? at h
  rw [if_pos (Nat.zero_le _)] at h
  obtain ⟨h1, h2⟩ := mapM_get h
  refine ⟨by simpa using h1, fun i hi => h2 i i (by simp [hi])⟩
theorem rd_row {α : Type} {c : Cd α} {w : World} {a : Addr} {xs : List α} (hn : 0 < c.n) (hne : xs ≠ []) (h : ∀ i, i < xs.length → ∃ x, xs[i]? = some x ∧ ∀ j, j < c.n → w.cell? (a.add (i * c.n + j)) = (c.cells x)[j]?) :
    ∃ (b off : Nat) (l : List Value) (T : TypeId) (fz : Nat × Nat), a = ⟨b, off, none⟩ ∧ hof w b = some (.cells l.toArray T fz) ∧ (l.drop off).take (xs.length * c.n) = flat c xs := by
  have hl : 0 < xs.length := List.length_pos_iff.2 hne
  obtain ⟨x0, hx0, hc0⟩ := h 0 hl
  have h00 := hc0 0 hn
  have e0 : (c.cells x0)[0]? = some ((c.cells x0)[0]'(by rw [c.len]; exact hn)) := by simp
  rw [e0] at h00
  have e1 : a.add (0 * c.n + 0) = a := by simp [Addr.add]
  rw [e1] at h00
  obtain ⟨l, T, fz, hb, hs, _⟩ := cell_of h00
  obtain ⟨b, off, spot⟩ := a
  simp only at hb hs
  subst hs
  refine ⟨b, off, l, T, fz, rfl, hb, ?_⟩
  have key : ∀ i j, i < xs.length → j < c.n → l[off + (i * c.n + j)]? = (flat c xs)[i * c.n + j]? := by
    intro i j hi hj
    obtain ⟨x, hx, hc⟩ := h i hi
    have hcj := hc j hj
    rw [add_addr] at hcj
    have ej : (c.cells x)[j]? = some ((c.cells x)[j]'(by rw [c.len]; exact hj)) := by simp [c.len, hj]
    have e2 : (flat c xs)[i * c.n + j]? = (c.cells x)[j]? := by
      clear h hc0 h00 hx0 hcj hc hl hne
      induction xs generalizing i with
      | nil => simp at hi
      | cons y ys ih =>
        show (c.cells y ++ flat c ys)[i * c.n + j]? = _
        cases i with
        | zero =>
          simp only [List.getElem?_cons_zero, Option.some.injEq] at hx
          subst hx
          rw [Nat.zero_mul, Nat.zero_add, List.getElem?_append_left (by rw [c.len]; exact hj)]
        | succ i =>
          rw [List.getElem?_append_right (by rw [c.len, Nat.add_mul]; omega), c.len]
          have : (i + 1) * c.n + j - c.n = i * c.n + j := by rw [Nat.add_mul]; omega
          rw [this]
          exact ih i (by simpa using hi) (by simpa using hx)
    rw [ej] at hcj
    obtain ⟨l2, T2, fz2, hb2, _, hv⟩ := cell_of hcj
    rw [hb] at hb2
    simp only [Option.some.injEq, Obj.cells.injEq] at hb2
    have : l = l2 := by simpa using hb2.1
    subst this
    rw [e2, ej]
    exact hv
  apply List.ext_getElem?
  intro k
  by_cases hk : k < xs.length * c.n
  · rw [List.getElem?_take_of_lt hk, List.getElem?_drop]
    have hkd : k / c.n < xs.length := Nat.div_lt_of_lt_mul (by rw [Nat.mul_comm]; exact hk)
    have := key (k / c.n) (k % c.n) hkd (Nat.mod_lt _ hn)
    rw [show k / c.n * c.n + k % c.n = k from by rw [Nat.mul_comm]; exact Nat.div_add_mod k c.n] at this
    exact this
  · rw [List.getElem?_eq_none (by simp; omega), List.getElem?_eq_none (by rw [flat_len]; omega)]
def GSl {α : Type} (c : Cd α) (G : Hp → α → Prop) : Hp → Sl → Prop := fun h s => ∃ xs, RdOk h s c xs ∧ xs.length ≤ 9223372036854775807 ∧ ∀ x ∈ xs, G h x
theorem ex_list {α : Type} {Q : Nat → α → Prop} : ∀ {n : Nat}, (∀ i, i < n → ∃ x, Q i x) → ∃ xs : List α, xs.length = n ∧ ∀ i x, xs[i]? = some x → Q i x
  | 0, _ => ⟨[], rfl, fun i x h => by simp at h⟩
  | n + 1, h => by
    obtain ⟨xs, h1, h2⟩ := ex_list (n := n) fun i hi => h i (Nat.lt_succ_of_lt hi)
    obtain ⟨x, hx⟩ := h n (Nat.lt_succ_self n)
    refine ⟨xs ++ [x], by simp [h1], fun i y hy => ?_⟩
    by_cases hi : i < xs.length
    · rw [List.getElem?_append_left hi] at hy; exact h2 i y hy
    · rw [List.getElem?_append_right (by omega)] at hy
      have : i - xs.length = 0 := by
        apply Nat.eq_zero_of_not_pos
        intro hp
        rw [List.getElem?_eq_none (by simp; omega)] at hy
        cases hy
      rw [this] at hy
      simp only [List.getElem?_cons_zero, Option.some.injEq] at hy
      subst hy
      have : i = n := by omega
      rw [this]; exact hx
instance RdT.sl {t e : TypeId} {α : Type} {c : Cd α} {z : α} {bytes : Nat} {G : Hp → α → Prop} [st : SlT P t e] [ty : Ty P e c z bytes] [rt : RdT P e c G] [np : NPos c.n] : RdT P t cSl (GSl c G) :=
  ⟨fun {H enc w sp held fuel cs x} h => by
    rcases DataW.trod_slice st.und h with ⟨rfl, _⟩ | ⟨a, len, cap, elems, rest, n, _, rfl, _, _, hl, hm, hlen, hel, _, _⟩
    · exact ⟨Sl.nil, rfl, [], ⟨rfl, fun h => absurd rfl h⟩, by simp, fun _ h => by simp at h⟩
    · have hsz : P.cellsOf e = c.n := cellsOf_ty
      have each : ∀ i, i < len → ∃ y : α, (∀ j, j < c.n → w.cell? (a.add (i * c.n + j)) = (c.cells y)[j]?) ∧ G (hof w) y := by
        intro i hi
        have h1 := hel i hi
        rw [hsz, List.getElem?_eq_getElem (by omega)] at h1
        obtain ⟨cs', hcs, htr⟩ := Option.bind_eq_some_iff.1 h1
        obtain ⟨y, hy, hg⟩ := rt.out htr
        obtain ⟨q1, q2⟩ := cells_of hcs
        refine ⟨y, fun j hj => ?_, hg⟩
        rw [← hy, ← q2 j hj]
        congr 1
        unfold Addr.add
        by_cases h1 : i * c.n = 0 <;> by_cases h2 : j = 0 <;> simp [h1, h2, Nat.add_assoc]
      obtain ⟨xs, hx1, hx2⟩ := ex_list each
      refine ⟨⟨some a, len, cap⟩, rfl, xs, ⟨hx1.symm, fun hne => ?_⟩, ?_, fun y hy => ?_⟩
      · obtain ⟨b, off, l, T, fz, r1, r2, r3⟩ := rd_row (c := c) (w := w) (a := a) np.out hne (fun i hi => ⟨xs[i], by simp, (hx2 i xs[i] (by simp)).1⟩)
        exact ⟨b, off, l, T, fz, by rw [r1], r2, r3⟩
      · unfold maxLen at hm; omega
      · obtain ⟨i, hi, rfl⟩ := List.getElem_of_mem hy
        exact (hx2 i xs[i] (by simp)).2⟩
def GArr {n : Nat} {α : Type} (G : Hp → α → Prop) : Hp → Arr n α → Prop := fun h a => ∀ x ∈ a.l, G h x
theorem cut_flat {α : Type} (c : Cd α) : ∀ (xs : List α) (cs : List Value), cs.length = xs.length * c.n → (∀ i x, xs[i]? = some x → (cs.drop (i * c.n)).take c.n = c.cells x) → cs = flat c xs
  | [], cs, h, _ => by
    have : cs = [] := List.eq_nil_of_length_eq_zero (by simpa using h)
    rw [this]; rfl
  | x :: xs, cs, h, hx => by
    have h0 := hx 0 x rfl
    rw [Nat.zero_mul, List.drop_zero] at h0
    have hl : cs.length = c.n + xs.length * c.n := by rw [h, List.length_cons, Nat.add_mul, Nat.one_mul, Nat.add_comm]
    have := cut_flat c xs (cs.drop c.n) (by rw [List.length_drop]; omega) (fun i y hy => by
      have := hx (i + 1) y (by simpa using hy)
      rw [List.drop_drop]
      rw [← this]
      congr 2
      rw [Nat.add_mul]; omega)
    show cs = c.cells x ++ flat c xs
    rw [← this, ← h0, List.take_append_drop]
instance RdT.arr {t e : TypeId} {n : Nat} {α : Type} {c : Cd α} {z : α} {bytes : Nat} {G : Hp → α → Prop} [at' : ArT P t n e] [ty : Ty P e c z bytes] [rt : RdT P e c G] {zt : Arr n α} {bt : Nat} [tt : Ty P t (cArr n c) zt bt] : RdT P t (cArr n c) (GArr G) :=
  ⟨fun {H enc w sp held fuel cs x} h => by
    obtain ⟨ys, m, _, _, hl, hn, hel⟩ := DataW.trod_array at'.und h
    have hsz : P.cellsOf e = c.n := cellsOf_ty
    have hst : P.cellsOf t = n * c.n := cellsOf_ty (c := cArr n c)
    have each : ∀ i, i < n → ∃ y : α, (cs.drop (i * c.n)).take c.n = c.cells y ∧ G (hof w) y := by
      intro i hi
      have h1 := hel i hi
      rw [hsz, List.getElem?_eq_getElem (by omega)] at h1
      exact rt.out h1
    obtain ⟨xs, hx1, hx2⟩ := ex_list each
    refine ⟨⟨xs, hx1⟩, ?_, fun y hy => ?_⟩
    · exact cut_flat c xs cs (by rw [hl, hst, hx1]) fun i x hx => (hx2 i x hx).1
    · obtain ⟨i, hi, rfl⟩ := List.getElem_of_mem hy
      exact (hx2 i xs[i] (by simp)).2⟩
/-- A field of a struct's reading. -/
theorem rd_field {H : Type} {enc : TypeId × Value → H} {w : World} {sp : Nat → Bool} {held : Bool} {cs : List Value} {m : Nat} {xs : List (DataW H × List MemPlace)} {fs : Array Field} {t : TypeId} {α : Type} {c : Cd α} {z : α} {bytes : Nat} {G : Hp → α → Prop}
    {i off : Nat} {f : Field} (hx : xs.length = fs.size) (hf : ∀ (i : Nat) (f : Field), fs[i]? = some f → DataW.trod enc P w 0 sp held m f.type ((cs.drop f.offset).take (P.cellsOf f.type)) = xs[i]?)
    (h1 : fs[i]? = some f) (h2 : f.type = t) (h3 : f.offset = off) [ty : Ty P t c z bytes] [rt : RdT P t c G] : ∃ a, (cs.drop off).take c.n = c.cells a ∧ G (hof w) a := by
  have hi : i < xs.length := by
    have := (Array.getElem?_eq_some_iff.1 h1).1
    omega
  have := hf i f h1
  rw [List.getElem?_eq_getElem hi, h2, h3, cellsOf_ty (c := c)] at this
  exact rt.out this
theorem cut_next {cs : List Value} {off n off' : Nat} {ys : List Value} (h : (cs.drop off).take n = ys) (h' : off + n = off') : cs.drop off = ys ++ cs.drop off' := by
  rw [← h, ← h', ← List.drop_drop, List.take_append_drop]
theorem rd_arg {H : Type} {enc : TypeId × Value → H} {w : World} {sp : Nat → Bool} {held : Bool} {t : TypeId} {v : Value} {d : DataW H} {p : List MemPlace} {b : Nat} {α : Type} {c : Cd α} {z : α} {bytes : Nat} {G : Hp → α → Prop}
    [ty : Ty P t c z bytes] [rt : RdT P t c G] (hok : Value.okWide P w .any b t v) (h : DataW.Trod enc P w 0 sp held t v d p) : ∃ a, v = c.val a ∧ G (hof w) a := by
  obtain ⟨fuel, hf⟩ := h
  obtain ⟨a, ha, hg⟩ := rt.out hf
  refine ⟨a, ?_, hg⟩
  obtain ⟨D, hD, hagg⟩ := ty.und
  cases hc : c.agg with
  | true =>
    rw [hc] at hagg
    have : ∃ cs, v = .agg cs := by
      unfold Value.okWide at hok
      rw [hD] at hok
      cases D <;> first | (simp [aggD] at hagg; done) | (obtain ⟨cs, rfl, _⟩ := hok; exact ⟨cs, rfl⟩)
    obtain ⟨cs, rfl⟩ := this
    rw [c.aggv hc, ← ha]
    simp [Value.cells]
  | false =>
    rw [hc] at hagg
    have h1 := c.sca hc a
    rw [h1] at ha
    have hok' : Cell.okWide P w .any b t v := by
      unfold Value.okWide at hok
      rw [hD] at hok
      cases D <;> first | exact hok | (simp [aggD] at hagg)
    cases v with
    | agg cs =>
      exfalso
      unfold Cell.okWide Cell.ok at hok'
      rw [hD] at hok'
      cases D <;> simp at hok'
    | tuple cs =>
      exfalso
      unfold Cell.okWide Cell.ok at hok'
      rw [hD] at hok'
      cases D <;> simp at hok'
    | _ => simpa [Value.cells] using ha
/-! ## What a law's row says behind the call -/
theorem trodAll_stays {H : Type} {enc : TypeId × Value → H} {W W' : World} (hl : laidOutB P = true) (hb : Below W.heap.size W W') : ∀ {ts : List TypeId} {vs : List Value} {ds : List (DataW H)} {ps : List MemPlace},
    (∀ t ∈ ts, P.readableRec t = true ∧ t < P.types.size) → (∀ p ∈ ps, p.block < W.heap.size) → DataW.TrodAll enc P W 0 (fun _ => true) true ts vs ds ps →
    DataW.TrodAll enc P W' 0 (fun b => decide (b < W.heap.size)) true ts vs ds ps
  | [], [], [], ps, _, _, h => h
  | t :: ts, v :: vs, d :: ds, ps, ht, hp, h => by
    obtain ⟨p, q, h1, h2, rfl⟩ := h
    exact ⟨p, q, Below.trod hl (ht t (.head _)).1 (ht t (.head _)).2 h1 hb (fun x hx => hp x (List.mem_append_left _ hx)),
      trodAll_stays hl hb (fun t h => ht t (.tail _ h)) (fun x hx => hp x (List.mem_append_right _ hx)) h2, rfl⟩
  | [], [], _ :: _, _, _, _, h => h.elim
  | [], _ :: _, _, _, _, _, h => h.elim
  | _ :: _, [], _, _, _, _, h => h.elim
  | _ :: _, _ :: _, [], _, _, _, h => h.elim
theorem post_true {H : Type} {enc : TypeId × Value → H} {fn : Func} {s : ChangeSpec} {apart fresh handsOn : Bool} {W W' : World} {args : Array Value} {ds gs : List (DataW H)} {before : List MemPlace} {tb : TypeId}
    (hl : laidOutB P = true) (hW : DataW.Whole enc P fn.params.toList s.vars apart W args.toList ds gs before) (hv : s.vars = []) (hr : fn.resultTypes = #[tb]) (hb : P.underlying tb = some .bool)
    (hp : ∀ t ∈ fn.params.toList, P.readableRec t = true ∧ t < P.types.size) (hs : s.fn H (ds ++ gs) = { results := [.lit (.bool true)], args := ds }) (hbl : Below W.heap.size W W') :
    s.post enc P fn apart fresh handsOn false W args (.bool true) W' := by
  have hlt := hW.lt
  have hW2 := hW
  obtain ⟨p, q, h1, h2, h3, _, _⟩ := hW
  subst h3
  refine ⟨ds, gs, _, [], p, [], hW2, ?_, ?_, ?_, hbl.frame _, fun h => by cases h⟩
  · rw [hs, hr]
    exact trodAll_mk1 ⟨1, by simp [DataW.trod, Value.cells, hb]⟩
  · rw [hs]
    exact trodAll_stays hl hbl hp (fun x hx => hlt x (List.mem_append_left _ hx)) h1
  · rw [hs, hv]
    rfl
end Go.Dn
