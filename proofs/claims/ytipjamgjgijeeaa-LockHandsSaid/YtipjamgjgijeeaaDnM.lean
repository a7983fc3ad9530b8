/-
  Own framework, part M: structs, their parts, building them.
  Conditions: none; general over any program.
-/
import Derived.Test.YtipjamgjgijeeaaDnL
set_option linter.unusedSectionVars false
set_option synthInstance.maxSize 10000
set_option synthInstance.maxHeartbeats 400000
set_option maxHeartbeats 2000000
namespace Go.Dn
set_option linter.unusedSimpArgs false
set_option linter.unusedVariables false
variable {P : Program} [sd : Side]

theorem sub_intro {α β : Type} [Inhabited α] {c : Cd α} {fo : Nat} {c' : Cd β} {get : α → β} {set : α → β → α} (A B : α → List Value) (h : ∀ x, c.cells x = A x ++ (c'.cells (get x) ++ B x)) (hA : ∀ x, (A x).length = fo)
    (hs : ∀ x y, c.cells (set x y) = A x ++ (c'.cells y ++ B x)) : SubC c fo c' get set True where
  le _ := by
    have := congrArg List.length (h default)
    rw [c.len, List.length_append, hA, List.length_append, c'.len] at this
    omega
  get_eq _ x := by
    rw [h, List.drop_append, List.drop_of_length_le (by rw [hA]; exact Nat.le_refl _), List.nil_append, hA, Nat.sub_self, List.drop_zero, List.take_append_of_le_length (by rw [c'.len]; exact Nat.le_refl _),
      List.take_of_length_le (by rw [c'.len]; exact Nat.le_refl _)]
  set_eq _ x y := by
    rw [hs, h, List.take_append, List.take_of_length_le (by rw [hA]; exact Nat.le_refl _), hA, Nat.sub_self, List.take_zero, List.append_nil, List.drop_append, List.drop_of_length_le (by rw [hA]; omega), List.nil_append, hA,
      Nat.add_sub_cancel_left, List.drop_append, List.drop_of_length_le (by rw [c'.len]; exact Nat.le_refl _), List.nil_append, c'.len, Nat.sub_self, List.drop_zero, List.append_assoc]
theorem wr_sub {α β : Type} {c : Cd α} {fo : Nat} {c' : Cd β} {get : α → β} {set : α → β → α} {C : Prop} (sb : SubC c fo c' get set C) (hC : C) (x : α) (y : β) :
    wr (c.cells x) fo (c'.cells y) = c.cells (set x y) := by
  unfold wr; rw [c'.len]; exact sb.set_eq hC x y
/-- A part of a part. -/
theorem SubC.comp {α β γ : Type} {c : Cd α} {f1 f2 : Nat} {c1 : Cd β} {c2 : Cd γ} {g1 : α → β} {s1 : α → β → α} {g2 : β → γ} {s2 : β → γ → β} {C1 C2 : Prop} (h1 : SubC c f1 c1 g1 s1 C1) (h2 : SubC c1 f2 c2 g2 s2 C2) :
    SubC c (f1 + f2) c2 (fun x => g2 (g1 x)) (fun x y => s1 x (s2 (g1 x) y)) (C1 ∧ C2) where
  le h := by have a := h1.le h.1; have b := h2.le h.2; omega
  get_eq h x := by
    have b := h2.le h.2
    rw [← h2.get_eq h.2, ← h1.get_eq h.1, ← List.drop_drop, List.drop_take, List.take_take, Nat.min_eq_left (by omega)]
  set_eq h x y := by
    have a := h1.le h.1
    have b := h2.le h.2
    rw [← h1.set_eq h.1, ← h2.set_eq h.2]
    have e1 : c1.cells (g1 x) = ((c.cells x).drop f1).take c1.n := (h1.get_eq h.1 x).symm
    rw [e1, List.take_take, Nat.min_eq_left (by omega), List.drop_take, List.drop_drop]
    have hl := c.len x
    have e2 : (c.cells x).take (f1 + f2) = (c.cells x).take f1 ++ ((c.cells x).drop f1).take f2 := by rw [List.take_add]
    rw [e2]
    simp only [List.append_assoc]
    congr 3
    have e3 : (c.cells x).drop (f1 + f2 + c2.n) = ((c.cells x).drop (f1 + (f2 + c2.n))).take (c1.n - (f2 + c2.n)) ++ ((c.cells x).drop (f1 + (f2 + c2.n))).drop (c1.n - (f2 + c2.n)) := by
      rw [List.take_append_drop, Nat.add_assoc]
    rw [e3, List.drop_drop]
    congr 2
    omega
def Arr.set {n : Nat} {α : Type} (a : Arr n α) (j : Nat) (y : α) : Arr n α := ⟨a.l.set j y, by rw [List.length_set, a.len]⟩
def Arr.get {n : Nat} {α : Type} [Inhabited α] (a : Arr n α) (j : Nat) : α := a.l.getD j default
theorem sub_arr {n : Nat} {α : Type} [Inhabited α] {c : Cd α} {j : Nat} : SubC (cArr n c) (j * c.n) c (fun a => a.get j) (fun a y => a.set j y) (j < n) where
  le h := by
    show j * c.n + c.n ≤ n * c.n
    rw [show j * c.n + c.n = (j + 1) * c.n from by rw [Nat.add_mul, Nat.one_mul]]
    exact Nat.mul_le_mul_right _ h
  get_eq h x := by
    have := flat_part (c := c) (c' := c) (fo := 0) (SubC.self) trivial (xs := x.l) (j := j) (by rw [x.len]; exact h)
    rw [Nat.add_zero] at this
    exact this
  set_eq h x y := by
    have := flat_set c y x.l j (by rw [x.len]; exact h)
    rw [Nat.add_mul, Nat.one_mul] at this
    exact this
instance SubC.arr {n : Nat} {α : Type} [Inhabited α] {c : Cd α} {m j : Nat} [ps : Pos m c.n j 0] : SubC (cArr n c) m c (fun a => a.get j) (fun a y => a.set j y) (j < n) := by
  have := ps.out
  rw [Nat.add_zero] at this
  subst this
  exact sub_arr
instance {n : Nat} {α : Type} [Inhabited α] : Inhabited (Arr n α) := ⟨⟨List.replicate n default, List.length_replicate⟩⟩
instance : Inhabited Sl := ⟨Sl.nil⟩
instance : Inhabited Fv := ⟨⟨.nilFunc, rfl⟩⟩

/-! ## Building -/
/-- A field: its place and how it lies. -/
class FldC (P : Program) (t : TypeId) (k : Nat) (fo : outParam Nat) {β : outParam Type} (c' : outParam (Cd β)) : Prop where
  out : ∃ fs f i, P.underlying t = some (.struct fs) ∧ fs[k]? = some f ∧ P.info? f.type = some i ∧ i.size = c'.n ∧ f.offset = fo
theorem foldl_wr (off : Nat) : ∀ (vs : List Value) (k : Nat) (l : List Value), off + k + vs.length ≤ l.length →
    (vs.zipIdx k).foldl (fun (cs : Array Value) (x : Value × Nat) => cs.setIfInBounds (off + x.2) x.1) l.toArray = (wr l (off + k) vs).toArray
  | [], k, l, _ => by simp [wr]
  | v :: vs, k, l, h => by
    simp only [List.length_cons] at h
    have hlt : off + k < l.length := by omega
    simp only [List.zipIdx_cons, List.foldl_cons, List.setIfInBounds_toArray]
    rw [foldl_wr off vs (k + 1) _ (by simp; omega)]
    congr 1
    unfold wr
    rw [← Nat.add_assoc off k 1, List.take_set, List.drop_set]
    have e1 : (List.take (off + k + 1) l).set (off + k) v = List.take (off + k) l ++ [v] := by
      rw [List.take_succ_eq_append_getElem hlt]
      rw [List.set_append, List.length_take, Nat.min_eq_left (Nat.le_of_lt hlt), if_neg (Nat.lt_irrefl _), Nat.sub_self]
      rfl
    rw [e1, if_pos (by omega)]
    simp only [List.append_assoc, List.cons_append, List.nil_append, List.length_cons]
    congr 4
    omega
theorem fill_cons {β : Type} {place : Nat → Option (Nat × Nat)} {c' : Cd β} {y : β} {i off n : Nat} {l : List Value} {rest : List (Nat × Value)} (hp : place i = some (off, n)) (hn : n = c'.n) (hle : off + n ≤ l.length) :
    Instr.fill place l.toArray ((i, c'.val y) :: rest) = Instr.fill place (wr l off (c'.cells y)).toArray rest := by
  subst hn
  simp only [Instr.fill, hp, c'.vcells]
  have h1 : (c'.cells y).length = c'.n := c'.len y
  rw [if_neg (by simp; omega)]
  congr 1
  have := foldl_wr off (c'.cells y) 0 l (by omega)
  simpa [Array.foldl_toList] using this
class BldS (P : Program) (t : TypeId) {α : Type} (c : Cd α) (x : α) (ps : List (Nat × Value)) (y : outParam α) : Prop where
  out : ∀ place : Nat → Option (Nat × Nat), (∀ (k fo : Nat) (fs : Array Field) (f : Field) (i : TypeInfo), P.underlying t = some (.struct fs) → fs[k]? = some f → P.info? f.type = some i → f.offset = fo → place k = some (fo, i.size)) →
    Instr.fill place (c.cells x).toArray ps = some (c.cells y).toArray
instance BldS.nil {t : TypeId} {α : Type} {c : Cd α} {x : α} : BldS P t c x [] x := ⟨fun _ _ => rfl⟩
instance BldS.cons {t : TypeId} {α β : Type} {c : Cd α} {c' : Cd β} {x y : α} {u : β} {k fo : Nat} {v : Value} {ps : List (Nat × Value)} {get : α → β} {set : α → β → α} [fl : FldC P t k fo c'] [sb : SubC c fo c' get set True]
    [vo : VOf c' v u] [bl : BldS P t c (set x u) ps y] : BldS P t c x ((k, v) :: ps) y :=
  ⟨fun place hp => by
    obtain ⟨fs, f, i, h1, h2, h3, h4, h5⟩ := fl.out
    have hpl := hp k fo fs f i h1 h2 h3 h5
    rw [vo.out, fill_cons hpl h4 (by rw [c.len, h4]; exact sb.le trivial), wr_sub sb trivial]
    exact bl.out place hp⟩
class StrT (P : Program) (t : TypeId) : Prop where
  out : ∃ fs : Array Field, P.underlying t = some (.struct fs) ∧ ∀ (k : Nat) (f : Field), fs[k]? = some f → ∃ i, P.info? f.type = some i
theorem prun_bind {α β : Type} {s : Sem α} {a : α} {f : α → Sem β} (h : prun P s = some a) : prun P (s >>= f) = prun P (f a) := by
  induction s with
  | pure b => simp only [prun, Option.some.injEq] at h; subst h; rfl
  | program k ih => exact ih P h
  | _ => simp [prun] at h
theorem prun_zero {α : Type} {t : TypeId} {c : Cd α} {z : α} {bytes : Nat} [ty : Ty P t c z bytes] : prun P (zeroValue t) = some (c.val z) := by
  obtain ⟨i, hi, _, _, hz⟩ := ty.info
  unfold zeroValue
  rw [prun_info hi, hz]
  rfl
theorem prun_places (fs : List Field) (h : ∀ f ∈ fs, ∃ i, P.info? f.type = some i) : ∃ l : List (Nat × Nat), prun P (fs.mapM fun f => do pure (f.offset, ← sizeOf f.type)) = some l ∧
    ∀ (k : Nat) (f : Field) (i : TypeInfo), fs[k]? = some f → P.info? f.type = some i → l[k]? = some (f.offset, i.size) := by
  induction fs with
  | nil => exact ⟨[], rfl, fun k f i hk => by simp at hk⟩
  | cons f fs ih =>
    obtain ⟨l, h1, h2⟩ := ih fun g hg => h g (.tail _ hg)
    obtain ⟨i, hi⟩ := h f (.head _)
    refine ⟨(f.offset, i.size) :: l, ?_, fun k g j hk hj => ?_⟩
    · rw [List.mapM_cons]
      simp only [bind_assoc, pure_bind]
      rw [prun_size hi, prun_bind h1]
      rfl
    · cases k with
      | zero => simp only [List.getElem?_cons_zero, Option.some.injEq] at hk; subst hk; rw [hi] at hj; cases hj; rfl
      | succ k => exact h2 k g j (by simpa using hk) hj
theorem prun_mapA {α β γ : Type} {f : α → Sem β} {xs : Array α} {l : List β} (h : prun P (xs.toList.mapM f) = some l) (k : Array β → Sem γ) : prun P (xs.mapM f >>= k) = prun P (k l.toArray) := by
  rw [Array.mapM_eq_mapM_toList]
  simp only [map_eq_pure_bind, bind_assoc, pure_bind]
  exact prun_bind h
instance St.buildS {t : TypeId} [sty : StrT P t] {α : Type} {c : Cd α} {z y : α} {bytes : Nat} [ty : Ty P t c z bytes] {ps : List (Nat × Value)} [bl : BldS P t c z ps y] {L : List HProp} {K : Value → W} :
    St L (pu P (Instr.build t ps.toArray) K) True (Ent L (K (c.val y))) :=
  ⟨fun _ h => by
    obtain ⟨fs, h1, h2⟩ := sty.out
    obtain ⟨d, hd, ha⟩ := ty.und
    have : d = .struct fs := by rw [h1] at hd; cases hd; rfl
    subst this
    obtain ⟨l, g1, g2⟩ := prun_places (P := P) fs.toList (fun f hf => by
      obtain ⟨k, hk⟩ := List.getElem?_of_mem hf
      exact h2 k f (by simpa using hk))
    refine ent_pu ?_ h
    unfold Instr.build
    rw [prun_bind prun_zero, prun_und h1]
    simp only
    rw [prun_mapA g1]
    have hf := bl.out (fun k => l.toArray[k]?) (fun k fo fs' f i e1 e2 e3 e4 => by
      rw [h1] at e1; cases e1
      have := g2 k f i (by simpa using e2) e3
      rw [← e4]; simpa using this)
    rw [c.vcells]
    rw [hf]
    simp only [prun, pure]
    rw [← c.aggv ha.symm]⟩
end Go.Dn
