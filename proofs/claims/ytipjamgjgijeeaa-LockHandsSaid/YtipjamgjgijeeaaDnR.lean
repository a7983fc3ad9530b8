/-
  Own framework, part R: equality of values, of functions and none; closures; least and greatest; arrays written out.
  Conditions: none; general over any program.
-/
import Derived.Test.YtipjamgjgijeeaaDnQ
set_option linter.unusedSectionVars false
set_option synthInstance.maxSize 10000
set_option synthInstance.maxHeartbeats 400000
set_option maxHeartbeats 2000000
namespace Go.Dn
set_option linter.unusedSimpArgs false
set_option linter.unusedVariables false
variable {P : Program} [sd : Side]
theorem prun_pure {α : Type} {a : α} : prun P (pure a) = some a := rfl
theorem prun_program {α : Type} {k : Program → Sem α} : prun P (program >>= k) = prun P (k P) := rfl
/-! ## Equality -/
class EqT (P : Program) (t : TypeId) {α : Type} (c : Cd α) (k : outParam Nat) : Prop where
  out : ∀ d, k ≤ d → ∀ x y : α, ∃ b, prun P (Op.equalIn d t (c.val x) (c.val y)) = some b ∧ (b = true ↔ x = y)
instance EqT.int {t : TypeId} {k : IntKind} [it : InT P t k] : EqT P t (cInt k) 1 :=
  ⟨fun d hd x y => ⟨x == y, by
    obtain ⟨d, rfl⟩ : ∃ e, d = e + 1 := ⟨d - 1, by omega⟩
    unfold Op.equalIn
    rw [prun_und it.und]
    show prun P (if k = k then pure (x == y) else _) = _
    rw [if_pos rfl]; rfl, by simp⟩⟩
instance EqT.u8 {t : TypeId} [it : InT P t .u8] : EqT P t cU8 1 :=
  ⟨fun d hd x y => ⟨x == y, by
    obtain ⟨d, rfl⟩ : ∃ e, d = e + 1 := ⟨d - 1, by omega⟩
    unfold Op.equalIn
    rw [prun_und it.und]
    show prun P (if IntKind.u8 = IntKind.u8 then pure ((x.toNat : Int) == (y.toNat : Int)) else _) = _
    rw [if_pos rfl]
    show some _ = some _
    congr 1
    rw [Bool.eq_iff_iff]
    simp [← UInt8.toNat_inj]; omega, by simp⟩⟩
class BlT (P : Program) (t : TypeId) : Prop where
  und : P.underlying t = some .bool
instance EqT.bool {t : TypeId} [it : BlT P t] : EqT P t cBool 1 :=
  ⟨fun d hd x y => ⟨x == y, by
    obtain ⟨d, rfl⟩ : ∃ e, d = e + 1 := ⟨d - 1, by omega⟩
    unfold Op.equalIn
    rw [prun_und it.und]; rfl, by simp⟩⟩
theorem prun_isAgg {t : TypeId} {α : Type} {c : Cd α} {z : α} {bytes : Nat} [ty : Ty P t c z bytes] {β : Type} (k : Bool → Sem β) : prun P (isAgg t >>= k) = prun P (k c.agg) := by
  obtain ⟨d, hd, ha⟩ := ty.und
  unfold isAgg
  rw [bind_assoc, prun_und hd, ← ha]
  cases d <;> rfl
theorem prun_part {t : TypeId} {α : Type} {c : Cd α} {z : α} {bytes : Nat} [ty : Ty P t c z bytes] {l : List Value} {off : Nat} {x : α} (h : (l.drop off).take c.n = c.cells x) (hl : off + c.n ≤ l.length) :
    prun P (part t l.toArray off) = some (c.val x) := by
  obtain ⟨i, hi, hs, _⟩ := ty.info
  unfold part
  rw [prun_isAgg (c := c)]
  cases hc : c.agg with
  | true =>
    simp only [if_true, bind_assoc, pure_bind]
    rw [prun_size hi, hs, c.aggv hc, prun_pure, ← h]
    congr 2
    simp [List.extract_eq_take_drop]
  | false =>
    simp only [Bool.false_eq_true, if_false]
    have h1 := c.sca hc x
    have hn := c.sca_n hc x
    rw [h1, hn] at h
    have : l[off]? = some (c.val x) := by
      have := congrArg (fun q => q[0]?) h
      simpa [List.getElem?_take, List.getElem?_drop] using this
    simp only [List.getElem?_toArray, this]
    rfl
theorem prun_step {α : Type} {b : Bool} {f : Sem Bool} (h : prun P f = some b) (k : Bool → Sem α) : prun P (f >>= k) = prun P (k b) := prun_bind h
/-- A search for the first that differs. -/
theorem prun_forIn {β : Type} {good : β → Bool} {body : β → Option Bool × Unit → Sem (ForInStep (Option Bool × Unit))} : ∀ {l : List β},
    (∀ x ∈ l, ∀ s, prun P (body x s) = some (if good x then .yield (none, ()) else .done (some false, ()))) → prun P (forIn l (none, ()) body) = some (if l.all good then (none, ()) else (some false, ()))
  | [], _ => rfl
  | x :: l, h => by
    rw [List.forIn_cons]
    rw [prun_bind (h x (.head _) _)]
    cases hg : good x with
    | true =>
      simp only [if_true, List.all_cons, hg, Bool.true_and]
      exact prun_forIn fun y hy => h y (.tail _ hy)
    | false => simp [hg, prun_pure]
theorem flat_at {α : Type} (c : Cd α) : ∀ (xs : List α) (i : Nat) (h : i < xs.length), ((flat c xs).drop (i * c.n)).take c.n = c.cells xs[i]
  | [], i, h => by simp at h
  | x :: xs, 0, _ => by
    show ((c.cells x ++ flat c xs).drop _).take _ = _
    rw [Nat.zero_mul, List.drop_zero, ← c.len x]
    simp
  | x :: xs, i + 1, h => by
    show ((c.cells x ++ flat c xs).drop _).take _ = _
    have e : (i + 1) * c.n = (c.cells x).length + i * c.n := by rw [c.len, Nat.add_mul, Nat.one_mul, Nat.add_comm]
    rw [e, List.drop_append, List.drop_of_length_le (by omega), List.nil_append, Nat.add_sub_cancel_left]
    exact flat_at c xs i (by simpa using h)
theorem Arr.ext' {n : Nat} {α : Type} {x y : Arr n α} (h : x.l = y.l) : x = y := by
  cases x; cases y; simp only at h; subst h; rfl
instance EqT.arr {t e n k : Nat} {α : Type} {c : Cd α} {z : α} {bytes : Nat} [at' : ArT P t n e] [ty : Ty P e c z bytes] [eq : EqT P e c k] : EqT P t (cArr n c) (k + 1) :=
  ⟨fun d hd x y => by
    obtain ⟨d, rfl⟩ : ∃ e, d = e + 1 := ⟨d - 1, by omega⟩
    obtain ⟨i, hi, hs, _⟩ := ty.info
    have ev := eq.out d (by omega)
    let f : Nat → Bool := fun i => if h : i < n then (Classical.choose (ev (x.l[i]'(by rw [x.len]; exact h)) (y.l[i]'(by rw [y.len]; exact h)))) else true
    have hf : ∀ i (h : i < n), prun P (Op.equalIn d e (c.val (x.l[i]'(by rw [x.len]; exact h))) (c.val (y.l[i]'(by rw [y.len]; exact h)))) = some (f i) ∧ (f i = true ↔ (x.l[i]'(by rw [x.len]; exact h)) = (y.l[i]'(by rw [y.len]; exact h))) := by
      intro i h
      have := Classical.choose_spec (ev (x.l[i]'(by rw [x.len]; exact h)) (y.l[i]'(by rw [y.len]; exact h)))
      simpa [f, h] using this
    refine ⟨(List.range' 0 n).all f, ?_, ?_⟩
    · show prun P (Op.equalIn (d + 1) t (.agg (flat c x.l).toArray) (.agg (flat c y.l).toArray)) = _
      unfold Op.equalIn
      rw [prun_und at'.und]
      simp only
      rw [prun_size hi, hs, Std.Legacy.Range.forIn_eq_forIn_range']
      have hsz : ({ start := 0, stop := n, step := 1, step_pos := Nat.zero_lt_one } : Std.Legacy.Range).size = n := by simp [Std.Legacy.Range.size]
      simp only [hsz]
      rw [prun_bind (prun_forIn (good := f) ?_)]
      · cases (List.range' 0 n).all f <;> rfl
      · intro i hi s
        have hin : i < n := by simp [List.mem_range'] at hi; exact hi
        have hle : i * c.n + c.n ≤ n * c.n := by rw [← Nat.succ_mul]; exact Nat.mul_le_mul_right _ hin
        rw [prun_bind (prun_part (c := c) (flat_at c x.l i (by rw [x.len]; exact hin)) (by rw [flat_len, x.len]; exact hle)),
          prun_bind (prun_part (c := c) (flat_at c y.l i (by rw [y.len]; exact hin)) (by rw [flat_len, y.len]; exact hle)), prun_bind (hf i hin).1]
        cases f i <;> rfl
    · rw [List.all_eq_true]
      constructor
      · intro h
        apply Arr.ext'
        apply List.ext_getElem (by rw [x.len, y.len])
        intro i h1 h2
        have hin : i < n := by rw [← x.len]; exact h1
        exact (hf i hin).2.1 (h i (by simp [List.mem_range']; exact hin))
      · rintro rfl i hi
        have hin : i < n := by simp [List.mem_range'] at hi; exact hi
        exact (hf i hin).2.2 rfl⟩
/-- The fields of a struct, one behind the other. -/
inductive EqFs (P : Program) {α : Type} (c : Cd α) (k : Nat) : List Field → (α → α → Prop) → Prop
  | nil : EqFs P c k [] (fun _ _ => True)
  | cons {f : Field} {fs : List Field} {Q : α → α → Prop} {β : Type} {c' : Cd β} {z : β} {bytes k' : Nat} {get : α → β} {set : α → β → α} (hn : (f.name != "_") = true) (hty : Ty P f.type c' z bytes) (hk : k' ≤ k)
      (hsub : SubC c f.offset c' get set True) (he : EqT P f.type c' k') (h : EqFs P c k fs Q) : EqFs P c k (f :: fs) (fun x y => get x = get y ∧ Q x y)
theorem eqFs_good {α : Type} {c : Cd α} {k d : Nat} (hd : k ≤ d) {fs : List Field} {Q : α → α → Prop} (h : EqFs P c k fs Q) (x y : α) : ∃ good : Field → Bool, ((∀ f ∈ fs, good f = true) ↔ Q x y) ∧
    ∀ f ∈ fs, ∀ s : Option Bool × Unit, prun P ((fun (f : Field) (_ : Option Bool × Unit) => (if f.name ≠ "_" then do
                  let a ← part f.type (c.cells x).toArray f.offset
                  let b ← part f.type (c.cells y).toArray f.offset
                  let r ← Op.equalIn d f.type a b
                  if (!r) = true then pure (ForInStep.done (some false, ()))
                    else pure (ForInStep.yield (none, ()))
                else pure (ForInStep.yield (none, ())) : Sem (ForInStep (Option Bool × Unit)))) f s) = some (if good f then .yield (none, ()) else .done (some false, ())) := by
  let good : Field → Bool := fun f => match prun P (do
                  let a ← part f.type (c.cells x).toArray f.offset
                  let b ← part f.type (c.cells y).toArray f.offset
                  Op.equalIn d f.type a b) with
    | some b => b
    | none => false
  refine ⟨good, ?_⟩
  induction h with
  | nil => exact ⟨by simp, fun f hf => by cases hf⟩
  | @cons f fs Q β c' z bytes k' get set hn hty hk hsub he hrest ih =>
    have p1 := prun_part (P := P) (c := c') (t := f.type) (l := c.cells x) (off := f.offset) (x := get x) (hsub.get_eq trivial x) (by rw [c.len]; exact hsub.le trivial)
    have p2 := prun_part (P := P) (c := c') (t := f.type) (l := c.cells y) (off := f.offset) (x := get y) (hsub.get_eq trivial y) (by rw [c.len]; exact hsub.le trivial)
    obtain ⟨b, hb1, hb2⟩ := he.out d (Nat.le_trans hk hd) (get x) (get y)
    have hg : good f = b := by
      show (match prun P _ with | some b => b | none => false) = b
      rw [prun_bind p1, prun_bind p2, hb1]
    refine ⟨?_, ?_⟩
    · simp only [List.mem_cons, forall_eq_or_imp, hg]
      rw [hb2, ih.1]
    · intro g hgm s
      rcases List.mem_cons.1 hgm with rfl | hgm
      · have hn' : g.name ≠ "_" := by simpa using hn
        simp only
        rw [if_pos hn', prun_bind p1, prun_bind p2, prun_bind hb1, hg]
        cases b <;> rfl
      · exact ih.2 g hgm s
theorem eqT_struct {t : TypeId} {α : Type} {c : Cd α} {k : Nat} {fs : Array Field} {l : List Field} {Q : α → α → Prop} (hu : P.underlying t = some (.struct fs)) (hh : P.stoodInHeld t = false) (hl : fs.toList = l) (hagg : c.agg = true)
    (h : EqFs P c k l Q) (hinj : ∀ x y, Q x y ↔ x = y) : EqT P t c (k + 1) :=
  ⟨fun d hd x y => by
    obtain ⟨d, rfl⟩ : ∃ e, d = e + 1 := ⟨d - 1, by omega⟩
    obtain ⟨good, h1, h2⟩ := eqFs_good (d := d) (by omega) h x y
    refine ⟨l.all good, ?_, ?_⟩
    · rw [c.aggv hagg, c.aggv hagg]
      unfold Op.equalIn
      rw [prun_und hu]
      simp only
      rw [prun_program, hh]
      simp only [Bool.false_eq_true, if_false]
      rw [← Array.forIn_toList, hl]
      rw [prun_bind (prun_forIn (good := good) h2)]
      cases l.all good <;> rfl
    · rw [List.all_eq_true, h1, hinj]⟩
class GdT (P : Program) (t : TypeId) : Prop where
  out : P.eqGuardType P.depth t = false
instance GdT.any {t : TypeId} {k : IntKind} [it : InT P t k] : GdT P t := ⟨by
  have : ∀ d, P.eqGuardType (d + 1) t = false := fun d => by unfold Program.eqGuardType; rw [it.und]
  exact this _⟩
theorem prun_eqG {op : BinOp} (hop : op = .eql ∨ op = .neq) {t : TypeId} {α : Type} {c : Cd α} {k : Nat} {cx cy : Bool} [eq : EqT P t c k] (hk : k ≤ 10000) [gd : GdT P t] (x y : α) (hagg : c.agg = true) :
    ∃ b, prun P (Op.equal t (c.val x) (c.val y)) = some b ∧ (b = true ↔ x = y) ∧ prun P (eqS op t cx cy (c.val x) (c.val y)) = some (.bool (if op = .eql then b else !b)) := by
  obtain ⟨b, h1, h2⟩ := eq.out 10000 hk x y
  refine ⟨b, h1, h2, ?_⟩
  rw [c.aggv hagg, c.aggv hagg] at h1 ⊢
  rcases hop with rfl | rfl
  · unfold eqS eqGuard
    simp only [Bool.not_true, Bool.false_eq_true, if_false, bind_assoc]
    rw [prun_program, prun_program, gd.out]
    simp only [Bool.not_false, if_true, pure_bind, binOp]
    rw [prun_bind (s := Op.equal t _ _) h1]
    rfl
  · unfold eqS eqGuard
    simp only [Bool.not_true, Bool.false_eq_true, if_false, bind_assoc]
    rw [prun_program, prun_program, gd.out]
    simp only [Bool.not_false, if_true, pure_bind, binOp]
    rw [prun_bind (s := Op.equal t _ _) h1]
    rfl
class EqG (P : Program) (t : TypeId) {α : Type} (c : Cd α) : Prop where
  out : ∀ x y : α, ∃ b, (b = true ↔ x = y) ∧ ∀ cx cy, prun P (eqS .eql t cx cy (c.val x) (c.val y)) = some (.bool b) ∧ prun P (eqS .neq t cx cy (c.val x) (c.val y)) = some (.bool !b)
theorem eqG_mk {t : TypeId} {α : Type} {c : Cd α} {k : Nat} (eq : EqT P t c k) (hk : k ≤ 10000) (gd : P.eqGuardType P.depth t = false) (hagg : c.agg = true) : EqG P t c := by
  constructor
  intro x y
  have : GdT P t := ⟨gd⟩
  obtain ⟨b, h1, h2⟩ := eq.out 10000 hk x y
  refine ⟨b, h2, fun cx cy => ⟨?_, ?_⟩⟩
  · obtain ⟨b', g1, g2, g3⟩ := prun_eqG (P := P) (t := t) (k := k) (op := .eql) (cx := cx) (cy := cy) (.inl rfl) hk x y hagg
    have : b' = b := by have := h1.symm.trans g1; cases this; rfl
    subst this; simpa using g3
  · obtain ⟨b', g1, g2, g3⟩ := prun_eqG (P := P) (t := t) (k := k) (op := .neq) (cx := cx) (cy := cy) (.inr rfl) hk x y hagg
    have : b' = b := by have := h1.symm.trans g1; cases this; rfl
    subst this; simpa using g3
class FnT (P : Program) (t : TypeId) : Prop where
  und : ∃ a b c, P.underlying t = some (.func a b c)
theorem prun_eqB {op : BinOp} (hop : op = .eql ∨ op = .neq) {t : TypeId} {cx cy : Bool} {x y : Value} {b : Bool} (hn : ∀ l, x ≠ .agg l) (hi : ∀ (k : IntKind) (i : Int), x ≠ .int k i) (hf : ∀ k i, x ≠ .float k i) (hc : ∀ k i j, x ≠ .complex k i j) (hs : ∀ k, x ≠ .string k) (hf0 : x ≠ .nilIface)
    (h : prun P (Op.equal t x y) = some b) : prun P (eqS op t cx cy x y) = some (.bool (if op = .eql then b else !b)) := by
  rcases hop with rfl | rfl
  · unfold eqS eqGuard
    cases x <;> first | exact absurd rfl (hn _) | exact absurd rfl (hi _ _) | exact absurd rfl (hf _ _) | exact absurd rfl (hc _ _ _) | exact absurd rfl (hs _) | exact absurd rfl hf0 | (simp only [Bool.not_true, Bool.false_eq_true, if_false, pure_bind, binOp]; rw [prun_bind h]; rfl)
  · unfold eqS eqGuard
    cases x <;> first | exact absurd rfl (hn _) | exact absurd rfl (hi _ _) | exact absurd rfl (hf _ _) | exact absurd rfl (hc _ _ _) | exact absurd rfl (hs _) | exact absurd rfl hf0 | (simp only [Bool.not_true, Bool.false_eq_true, if_false, pure_bind, binOp]; rw [prun_bind h]; rfl)
theorem prun_eqBool {t : TypeId} [bt : BlT P t] {a b : Bool} : prun P (Op.equal t (.bool a) (.bool b)) = some (a == b) := by
  unfold Op.equal Op.maxDepth Op.equalIn
  rw [prun_und bt.und]; rfl
theorem prun_eqFn {t : TypeId} [ft : FnT P t] : (∀ f a b, prun P (Op.equal t (.func f a b) .nilFunc) = some false) ∧ prun P (Op.equal t .nilFunc .nilFunc) = some true := by
  obtain ⟨_, _, _, hu⟩ := ft.und
  constructor
  · intro f a b
    unfold Op.equal Op.maxDepth Op.equalIn
    rw [prun_und hu]; rfl
  · unfold Op.equal Op.maxDepth Op.equalIn
    rw [prun_und hu]; rfl
theorem prun_eqSl {t e : TypeId} [st : SlT P t e] {s : Sl} : prun P (Op.equal t (sv s) (.slice none 0 0)) = some s.a.isNone := by
  unfold Op.equal Op.maxDepth Op.equalIn sv
  rw [prun_und st.und]
  cases s.a <;> rfl
theorem prun_eqMp {t k e : TypeId} [mt : MpT P t k e] {a : Option Nat} : prun P (Op.equal t (.map a) (.map none)) = some a.isNone := by
  unfold Op.equal Op.maxDepth Op.equalIn
  rw [prun_und mt.und]
  cases a <;> rfl
section
variable {L : List HProp} {K : Value → W}
instance Cm.eqG {t : TypeId} {α : Type} {c : Cd α} [eg : EqG P t c] {cx cy : Bool} {x y : α} : Cm L (pu P (eqS .eql t cx cy (c.val x) (c.val y)) K) (x = y) (Ent L (K (.bool true))) (Ent L (K (.bool false))) :=
  ⟨fun h1 h2 => by obtain ⟨b, hb, hp⟩ := eg.out x y; exact ent_cmp hb (hp cx cy).1 h1 h2⟩
instance Cm.eqGr {t : TypeId} {α : Type} {c : Cd α} [eg : EqG P t c] {cx cy : Bool} {x y : α} : Cm L (rd P (eqS .eql t cx cy (c.val x) (c.val y)) K) (x = y) (Ent L (K (.bool true))) (Ent L (K (.bool false))) :=
  ⟨fun h1 h2 => by obtain ⟨b, hb, hp⟩ := eg.out x y; exact ent_cmpr hb (hp cx cy).1 h1 h2⟩
instance Cm.neG {t : TypeId} {α : Type} {c : Cd α} [eg : EqG P t c] {cx cy : Bool} {x y : α} : Cm L (pu P (eqS .neq t cx cy (c.val x) (c.val y)) K) (x = y) (Ent L (K (.bool false))) (Ent L (K (.bool true))) :=
  ⟨fun h1 h2 => by
    obtain ⟨b, hb, hp⟩ := eg.out x y
    exact ent_cmp (p := x ≠ y) (by rw [← Bool.not_eq_false, Bool.not_eq_false']; simp [← hb]) (hp cx cy).2 h2 (fun h => h1 (Classical.byContradiction h))⟩
instance Cm.neGr {t : TypeId} {α : Type} {c : Cd α} [eg : EqG P t c] {cx cy : Bool} {x y : α} : Cm L (rd P (eqS .neq t cx cy (c.val x) (c.val y)) K) (x = y) (Ent L (K (.bool false))) (Ent L (K (.bool true))) :=
  ⟨fun h1 h2 => by
    obtain ⟨b, hb, hp⟩ := eg.out x y
    exact ent_cmpr (p := x ≠ y) (by rw [← Bool.not_eq_false, Bool.not_eq_false']; simp [← hb]) (hp cx cy).2 h2 (fun h => h1 (Classical.byContradiction h))⟩
theorem prun_boolE {t : TypeId} [BlT P t] {cx cy a b : Bool} : prun P (eqS .eql t cx cy (.bool a) (.bool b)) = some (.bool (a == b)) :=
  prun_eqB (.inl rfl) (by simp) (by simp) (by simp) (by simp) (by simp) (by simp) prun_eqBool
theorem prun_boolN {t : TypeId} [BlT P t] {cx cy a b : Bool} : prun P (eqS .neq t cx cy (.bool a) (.bool b)) = some (.bool !(a == b)) :=
  prun_eqB (.inr rfl) (by simp) (by simp) (by simp) (by simp) (by simp) (by simp) prun_eqBool
instance Cm.eqB {t : TypeId} [BlT P t] {cx cy a b : Bool} : Cm L (pu P (eqS .eql t cx cy (.bool a) (.bool b)) K) (a = b) (Ent L (K (.bool true))) (Ent L (K (.bool false))) := ⟨ent_cmp (by simp) prun_boolE⟩
instance Cm.eqBr {t : TypeId} [BlT P t] {cx cy a b : Bool} : Cm L (rd P (eqS .eql t cx cy (.bool a) (.bool b)) K) (a = b) (Ent L (K (.bool true))) (Ent L (K (.bool false))) := ⟨ent_cmpr (by simp) prun_boolE⟩
instance Cm.neB {t : TypeId} [BlT P t] {cx cy a b : Bool} : Cm L (pu P (eqS .neq t cx cy (.bool a) (.bool b)) K) (a = b) (Ent L (K (.bool false))) (Ent L (K (.bool true))) :=
  ⟨fun h1 h2 => ent_cmp (p := a ≠ b) (by simp) prun_boolN h2 (fun h => h1 (Classical.byContradiction h))⟩
instance Cm.neBr {t : TypeId} [BlT P t] {cx cy a b : Bool} : Cm L (rd P (eqS .neq t cx cy (.bool a) (.bool b)) K) (a = b) (Ent L (K (.bool false))) (Ent L (K (.bool true))) :=
  ⟨fun h1 h2 => ent_cmpr (p := a ≠ b) (by simp) prun_boolN h2 (fun h => h1 (Classical.byContradiction h))⟩
instance St.eqFs {t : TypeId} [FnT P t] {cx cy : Bool} {f : Fn} {a b : Array Value} : St L (pu P (eqS .eql t cx cy (.func f a b) .nilFunc) K) True (Ent L (K (.bool false))) :=
  ⟨fun _ h => ent_pu (prun_eqB (.inl rfl) (by simp) (by simp) (by simp) (by simp) (by simp) (by simp) (prun_eqFn.1 f a b)) h⟩
instance St.neFs {t : TypeId} [FnT P t] {cx cy : Bool} {f : Fn} {a b : Array Value} : St L (pu P (eqS .neq t cx cy (.func f a b) .nilFunc) K) True (Ent L (K (.bool true))) :=
  ⟨fun _ h => ent_pu (prun_eqB (.inr rfl) (by simp) (by simp) (by simp) (by simp) (by simp) (by simp) (prun_eqFn.1 f a b)) h⟩
instance Cm.eqSl {t e : TypeId} [SlT P t e] {cx cy : Bool} {s : Sl} : Cm L (pu P (eqS .eql t cx cy (sv s) (.slice none 0 0)) K) (s.a = none) (Ent L (K (.bool true))) (Ent L (K (.bool false))) :=
  ⟨ent_cmp (b := s.a.isNone) (by simp) (prun_eqB (.inl rfl) (by simp [sv]) (by simp [sv]) (by simp [sv]) (by simp [sv]) (by simp [sv]) (by simp [sv]) prun_eqSl)⟩
instance Cm.neSl {t e : TypeId} [SlT P t e] {cx cy : Bool} {s : Sl} : Cm L (pu P (eqS .neq t cx cy (sv s) (.slice none 0 0)) K) (s.a = none) (Ent L (K (.bool false))) (Ent L (K (.bool true))) :=
  ⟨fun h1 h2 => ent_cmp (b := !s.a.isNone) (p := s.a ≠ none) (by cases s.a <;> simp) (prun_eqB (.inr rfl) (by simp [sv]) (by simp [sv]) (by simp [sv]) (by simp [sv]) (by simp [sv]) (by simp [sv]) prun_eqSl) h2 (fun h => h1 (Classical.byContradiction h))⟩
/-! A look again at what was not looked at -/
instance (priority := high) St.ckFT {s : Sem Value} {u : Value} {A : W} : St L (andW (ck P (some (.bool false, true)) s u) A) True (Ent L A) := ⟨fun _ h w hw => ⟨fun e => by simp at e, h w hw⟩⟩
instance (priority := high) St.ckTF {s : Sem Value} {u : Value} {A : W} : St L (andW (ck P (some (.bool true, false)) s u) A) True (Ent L A) := ⟨fun _ h w hw => ⟨fun e => by simp at e, h w hw⟩⟩
/-! ## Closures, least and greatest -/
instance St.makeFunc {f : Fn} {a b : Array Value} : St L (pu P (Instr.makeFunc f a b) K) True (Ent L (K (.func f a b))) := ⟨fun _ h => ent_pu rfl h⟩
instance St.minI {ts : Array TypeId} {t : TypeId} {k k' : IntKind} {x y : Int} : St L (pu P (Builtin.min_ ts t [(.int k x), (.int k' y)].toArray) K) True (Ent L (K (.int k (min x y)))) :=
  ⟨fun _ h => ent_pu (v := .int k (min x y)) (by
    have : (if y < x then y else x) = min x y := by split <;> omega
    show some (Value.int k (if y < x then y else x)) = _
    rw [this]) h⟩
instance St.maxI {ts : Array TypeId} {t : TypeId} {k k' : IntKind} {x y : Int} : St L (pu P (Builtin.max_ ts t [(.int k x), (.int k' y)].toArray) K) True (Ent L (K (.int k (max x y)))) :=
  ⟨fun _ h => ent_pu (v := .int k (max x y)) (by
    have : (if x < y then y else x) = max x y := by split <;> omega
    show some (Value.int k (if x < y then y else x)) = _
    rw [this]) h⟩
end
/-! ## Arrays written out -/
class BldA {n : Nat} {α : Type} [Inhabited α] (c : Cd α) (x : Arr n α) (ps : List (Nat × Value)) (y : outParam (Arr n α)) (C : outParam Prop) : Prop where
  out : C → Instr.fill (fun i => some (i * c.n, c.n)) ((cArr n c).cells x).toArray ps = some ((cArr n c).cells y).toArray
instance BldA.nil {n : Nat} {α : Type} [Inhabited α] {c : Cd α} {x : Arr n α} : BldA c x [] x True := ⟨fun _ => rfl⟩
instance BldA.cons {n : Nat} {α : Type} [Inhabited α] {c : Cd α} {x y : Arr n α} {k : Nat} {v : Value} {u : α} {ps : List (Nat × Value)} {C : Prop} [vo : VOf c v u] [bl : BldA c (x.set k u) ps y C] : BldA c x ((k, v) :: ps) y (k < n ∧ C) :=
  ⟨fun hC => by
    have sb : SubC (cArr n c) (k * c.n) c (fun a => a.get k) (fun a y => a.set k y) (k < n) := SubC.arr
    rw [vo.out, fill_cons (c' := c) (off := k * c.n) rfl rfl (by rw [(cArr n c).len]; exact sb.le hC.1), wr_sub sb hC.1]
    exact bl.out hC.2⟩
instance St.buildA {t n e : Nat} [art : ArT P t n e] {α : Type} [Inhabited α] {c : Cd α} {z : Arr n α} {z' : α} {y : Arr n α} {bytes bytes' : Nat} {C : Prop} [ty : Ty P t (cArr n c) z bytes] [ty' : Ty P e c z' bytes'] {ps : List (Nat × Value)} [bl : BldA c z ps y C] {L : List HProp} {K : Value → W} :
    St L (pu P (Instr.build t ps.toArray) K) C (Ent L (K ((cArr n c).val y))) :=
  ⟨fun hC h => by
    obtain ⟨i, hi, hs, _⟩ := ty'.info
    refine ent_pu ?_ h
    unfold Instr.build
    rw [prun_bind prun_zero, prun_und art.und]
    simp only
    rw [prun_size hi, hs, (cArr n c).vcells, bl.out hC]
    rfl⟩
end Go.Dn
