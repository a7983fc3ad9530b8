/-
  Own framework, part Y: what is handed in, with its size; a variable of the program that reads as a known datum.
  Conditions: none; general over any program.
-/
import Derived.Test.YtipjamgjgijeeaaDnZ
import Derived.Test.YtipjamgjgijeeaaDnT
import Derived.SizedLaws
set_option linter.unusedSectionVars false
set_option synthInstance.maxSize 10000
set_option synthInstance.maxHeartbeats 400000
set_option maxHeartbeats 2000000
namespace Go.Dn
set_option linter.unusedSimpArgs false
set_option linter.unusedVariables false
open Go.RowKit Go.ChangeShapes Go.ChangeAt Go.WideShapes
variable {P : Program}
def Small {H : Type} (P : Program) (t : TypeId) (d : DataW H) : Prop := ∀ n ∈ d.weights P t, n ≤ 140737488351232
class RdS (P : Program) (t : TypeId) {α : Type} (c : Cd α) (G : outParam (Hp → α → Prop)) : Prop where
  out : ∀ {H : Type} {enc : TypeId × Value → H} {w : World} {sp : Nat → Bool} {held : Bool} {fuel : Nat} {cs : List Value} {x : DataW H × List MemPlace},
    DataW.trod enc P w 0 sp held fuel t cs = some x → Small P t x.1 → ∃ a, cs = c.cells a ∧ G (hof w) a
theorem RdS.of {t : TypeId} {α : Type} {c : Cd α} {G : Hp → α → Prop} (r : RdT P t c G) : RdS P t c G := ⟨fun h _ => r.out h⟩
instance RdS.int {t : TypeId} {k : IntKind} [InT P t k] : RdS P t (cInt k) (GInt k) := RdS.of inferInstance
instance RdS.u8 {t : TypeId} [InT P t .u8] : RdS P t cU8 GTrue := RdS.of inferInstance
instance RdS.bool {t : TypeId} [BoT P t] : RdS P t cBool GTrue := RdS.of inferInstance
theorem bytesOf_ty {t : TypeId} {α : Type} {c : Cd α} {z : α} {bytes : Nat} [ty : Ty P t c z bytes] : P.bytesOf t = bytes := by
  obtain ⟨i, hi, _, hb, _⟩ := ty.info
  simp [Program.bytesOf, hi, hb]
theorem weights_mem_all {H : Type} {e : TypeId} : ∀ {ds : List (DataW H)} {d : DataW H}, d ∈ ds → ∀ n ∈ d.weights P e, n ∈ DataW.weightsAll P e ds
  | d0 :: ds, d, hd, n, hn => by
    simp only [DataW.weightsAll, List.mem_append]
    rcases List.mem_cons.1 hd with rfl | hd
    · exact .inl hn
    · exact .inr (weights_mem_all hd n hn)
/-- A slice that was handed in: what it holds, and that it is not too long for a machine. -/
def GSz {α : Type} (c : Cd α) (G : Hp → α → Prop) (bytes : Nat) : Hp → Sl → Prop := fun h s => ∃ xs, RdOk h s c xs ∧ xs.length * bytes ≤ 140737488351232 ∧ xs.length ≤ 9223372036854775807 ∧ ∀ x ∈ xs, G h x
instance RdS.sl {t e : TypeId} {α : Type} {c : Cd α} {z : α} {bytes : Nat} {G : Hp → α → Prop} [st : SlT P t e] [ty : Ty P e c z bytes] [rt : RdS P e c G] [np : NPos c.n] : RdS P t cSl (GSz c G bytes) :=
  ⟨fun {H enc w sp held fuel cs x} h hw => by
    rcases DataW.trod_slice st.und h with ⟨rfl, _⟩ | ⟨a, len, cap, elems, rest, n, _, rfl, hx, _, hl, hm, hlen, hel, _, _⟩
    · exact ⟨Sl.nil, rfl, [], ⟨rfl, fun h => absurd rfl h⟩, by simp, by simp, fun _ h => by simp at h⟩
    · have hsz : P.cellsOf e = c.n := cellsOf_ty
      subst hx
      have hwt : (DataW.slice (elems.map (·.1)) (rest.map (·.1))).weights P t = ((elems.map (·.1)).length + (rest.map (·.1)).length) * P.bytesOf e :: (DataW.weightsAll P e (elems.map (·.1)) ++ DataW.weightsAll P e (rest.map (·.1))) := by
        simp [DataW.weights, st.und]
      have each : ∀ i, i < len → ∃ y : α, (∀ j, j < c.n → w.cell? (a.add (i * c.n + j)) = (c.cells y)[j]?) ∧ G (hof w) y := by
        intro i hi
        have h1 := hel i hi
        rw [hsz, List.getElem?_eq_getElem (by omega)] at h1
        obtain ⟨cs', hcs, htr⟩ := Option.bind_eq_some_iff.1 h1
        obtain ⟨y, hy, hg⟩ := rt.out htr (fun m hm => hw m (by
          show m ∈ (DataW.slice (elems.map (·.1)) (rest.map (·.1))).weights P t
          rw [hwt]
          refine List.mem_cons_of_mem _ (List.mem_append_left _ (weights_mem_all (List.mem_map_of_mem (List.getElem_mem _)) m hm))))
        obtain ⟨q1, q2⟩ := cells_of hcs
        refine ⟨y, fun j hj => ?_, hg⟩
        rw [← hy, ← q2 j hj]
        congr 1
        unfold Addr.add
        by_cases h1 : i * c.n = 0 <;> by_cases h2 : j = 0 <;> simp [h1, h2, Nat.add_assoc]
      obtain ⟨xs, hx1, hx2⟩ := ex_list each
      refine ⟨⟨some a, len, cap⟩, rfl, xs, ⟨hx1.symm, fun hne => ?_⟩, ?_, ?_, fun y hy => ?_⟩
      · obtain ⟨b, off, l, T, fz, r1, r2, r3⟩ := rd_row (c := c) (w := w) (a := a) np.out hne (fun i hi => ⟨xs[i], by simp, (hx2 i xs[i] (by simp)).1⟩)
        exact ⟨b, off, l, T, fz, by rw [r1], r2, r3⟩
      · have h2 := hw (((elems.map (·.1)).length + (rest.map (·.1)).length) * P.bytesOf e) (by rw [hwt]; exact .head _)
        rw [bytesOf_ty (c := c), List.length_map, hlen, ← hx1, Nat.add_mul] at h2
        omega
      · unfold maxLen at hm; omega
      · obtain ⟨i, hi, rfl⟩ := List.getElem_of_mem hy
        exact (hx2 i xs[i] (by simp)).2⟩
instance RdS.arr {t e : TypeId} {n : Nat} {α : Type} {c : Cd α} {z : α} {bytes : Nat} {G : Hp → α → Prop} [at' : ArT P t n e] [ty : Ty P e c z bytes] [rt : RdS P e c G] {zt : Arr n α} {bt : Nat} [tt : Ty P t (cArr n c) zt bt] : RdS P t (cArr n c) (GArr G) :=
  ⟨fun {H enc w sp held fuel cs x} h hw => by
    obtain ⟨ys, m, _, hx, hl, hn, hel⟩ := DataW.trod_array at'.und h
    subst hx
    have hsz : P.cellsOf e = c.n := cellsOf_ty
    have hst : P.cellsOf t = n * c.n := cellsOf_ty (c := cArr n c)
    have each : ∀ i, i < n → ∃ y : α, (cs.drop (i * c.n)).take c.n = c.cells y ∧ G (hof w) y := by
      intro i hi
      have h1 := hel i hi
      rw [hsz, List.getElem?_eq_getElem (by omega)] at h1
      exact rt.out h1 (fun m hm => hw m (by
        simp only [DataW.weights, at'.und]
        exact weights_mem_all (List.mem_map_of_mem (List.getElem_mem _)) m hm))
    obtain ⟨xs, hx1, hx2⟩ := ex_list each
    refine ⟨⟨xs, hx1⟩, ?_, fun y hy => ?_⟩
    · exact cut_flat c xs cs (by rw [hl, hst, hx1]) fun i x hx => (hx2 i x hx).1
    · obtain ⟨i, hi, rfl⟩ := List.getElem_of_mem hy
      exact (hx2 i xs[i] (by simp)).2⟩
/-- A field of a struct's reading. -/
theorem rds_field {H : Type} {enc : TypeId × Value → H} {w : World} {sp : Nat → Bool} {held : Bool} {cs : List Value} {m : Nat} {xs : List (DataW H × List MemPlace)} {fs : Array Field} {T t : TypeId} {α : Type} {c : Cd α} {z : α} {bytes : Nat} {G : Hp → α → Prop}
    {i off : Nat} {f : Field} (hu : P.underlying T = some (.struct fs)) (hw : Small P T (DataW.agg (xs.map (·.1)))) (hx : xs.length = fs.size) (hf : ∀ (i : Nat) (f : Field), fs[i]? = some f → DataW.trod enc P w 0 sp held m f.type ((cs.drop f.offset).take (P.cellsOf f.type)) = xs[i]?)
    (h1 : fs[i]? = some f) (h2 : f.type = t) (h3 : f.offset = off) [ty : Ty P t c z bytes] [rt : RdS P t c G] : ∃ a, (cs.drop off).take c.n = c.cells a ∧ G (hof w) a := by
  have hi : i < xs.length := by
    have := (Array.getElem?_eq_some_iff.1 h1).1
    omega
  have := hf i f h1
  rw [List.getElem?_eq_getElem hi, h2, h3, cellsOf_ty (c := c)] at this
  refine rt.out this (fun n hn => hw n ?_)
  simp only [DataW.weights, hu]
  refine DataW.weights_mem_each (j := i) (t := t) (d := xs[i].1) ?_ ?_ n hn
  · rw [List.getElem?_map]
    have : fs.toList[i]? = some f := by simpa using h1
    rw [this]
    simp [h2]
  · rw [List.getElem?_map, List.getElem?_eq_getElem hi]; rfl
theorem rds_arg {H : Type} {enc : TypeId × Value → H} {w : World} {sp : Nat → Bool} {held : Bool} {t : TypeId} {v : Value} {d : DataW H} {p : List MemPlace} {b : Nat} {α : Type} {c : Cd α} {z : α} {bytes : Nat} {G : Hp → α → Prop}
    [ty : Ty P t c z bytes] [rt : RdS P t c G] (hok : Value.okWide P w .any b t v) (h : DataW.Trod enc P w 0 sp held t v d p) (hw : Small P t d) : ∃ a, v = c.val a ∧ G (hof w) a := by
  have rt' : ∃ (fuel : Nat) (a : α), v.cells.toList = c.cells a ∧ G (hof w) a := by
    obtain ⟨fuel, hf⟩ := h
    obtain ⟨a, ha, hg⟩ := rt.out hf hw
    exact ⟨fuel, a, ha, hg⟩
  obtain ⟨fuel, a, ha, hg⟩ := rt'
  refine ⟨a, ?_, hg⟩
  obtain ⟨D, hD, hagg⟩ := ty.und
  cases hc : c.agg with
  | true =>
    rw [hc] at hagg
    have : ∃ cs, v = .agg cs := by
      unfold Value.okWide at hok
      rw [hD] at hok
      cases D <;> first | (simp [aggD] at hagg; done) | (obtain ⟨cs, rfl, _⟩ := hok; exact ⟨cs, rfl⟩)
    obtain ⟨cs, rfl⟩ := this
    rw [c.aggv hc, ← ha]
    simp [Value.cells]
  | false =>
    rw [hc] at hagg
    have h1 := c.sca hc a
    rw [h1] at ha
    have hok' : Cell.okWide P w .any b t v := by
      unfold Value.okWide at hok
      rw [hD] at hok
      cases D <;> first | exact hok | (simp [aggD] at hagg)
    cases v with
    | agg cs =>
      exfalso
      unfold Cell.okWide Cell.ok at hok'
      rw [hD] at hok'
      cases D <;> simp at hok'
    | tuple cs =>
      exfalso
      unfold Cell.okWide Cell.ok at hok'
      rw [hD] at hok'
      cases D <;> simp at hok'
    | _ => simpa [Value.cells] using ha
/-- Of all weights those of one argument. -/
theorem small_arg {H : Type} {ts : List TypeId} {ds : List (DataW H)} (h : (DataW.weightsEach P ts ds).all (· ≤ reachBytes) = true) {j : Nat} {t : TypeId} {d : DataW H} (ht : ts[j]? = some t) (hd : ds[j]? = some d) : Small P t d := fun n hn => by
  have := List.all_eq_true.1 h _ (DataW.weights_mem_each ht hd n hn)
  have h2 : n ≤ reachBytes := by simpa using this
  exact h2
/-! ## What a cell reads as, turned back -/
class DtT (P : Program) (t : TypeId) {α : Type} (c : Cd α) (D : outParam (α → DataW Unit)) : Prop where
  out : ∀ {enc : TypeId × Value → Unit} {w : World} {sp : Nat → Bool} {held : Bool} {fuel : Nat} {a : α} {x : DataW Unit × List MemPlace}, DataW.trod enc P w 0 sp held fuel t (c.cells a) = some x → x.1 = D a
instance DtT.int {t : TypeId} {k : IntKind} [it : InT P t k] : DtT P t (cInt k) (fun n => .lit (.int k n)) := ⟨fun {enc w sp held fuel a x} h => by
  obtain ⟨n, hc, rfl, _⟩ := DataW.trod_int it.und h
  have h2 : [Value.int k a] = [Value.int k n] := hc
  simp only [List.cons.injEq, Value.int.injEq, and_true, true_and] at h2
  subst h2
  rfl⟩
instance DtT.arr {t e : TypeId} {n : Nat} {α : Type} {c : Cd α} {z : α} {bytes : Nat} {D : α → DataW Unit} [at' : ArT P t n e] [ty : Ty P e c z bytes] [dt : DtT P e c D] : DtT P t (cArr n c) (fun a => .agg (a.l.map D)) := ⟨fun {enc w sp held fuel a x} h => by
  obtain ⟨ys, m, _, hx, hl, hn, hel⟩ := DataW.trod_array at'.und h
  subst hx
  have hsz : P.cellsOf e = c.n := cellsOf_ty
  show DataW.agg (ys.map (·.1)) = DataW.agg (a.l.map D)
  congr 1
  apply List.ext_getElem (by rw [List.length_map, List.length_map, hn, a.len])
  intro i h1 h2
  have hi : i < n := by simpa [hn] using h1
  have h3 := hel i hi
  have h4 := flat_at c a.l i (by rw [a.len]; exact hi)
  rw [hsz] at h3
  rw [show (((cArr n c).cells a).drop (i * c.n)).take c.n = c.cells (a.l[i]'(by rw [a.len]; exact hi)) from h4, List.getElem?_eq_getElem (by omega)] at h3
  have := dt.out h3
  simpa using this⟩
theorem dt_field {enc : TypeId × Value → Unit} {w : World} {sp : Nat → Bool} {held : Bool} {m : Nat} {xs : List (DataW Unit × List MemPlace)} {fs : Array Field} {t : TypeId} {α β : Type} {c : Cd α} {c' : Cd β} {z : β} {bytes : Nat} {D : β → DataW Unit} {a : α}
    {i off : Nat} {f : Field} {get : α → β} {set : α → β → α} (hx : xs.length = fs.size) (hf : ∀ (i : Nat) (f : Field), fs[i]? = some f → DataW.trod enc P w 0 sp held m f.type (((c.cells a).drop f.offset).take (P.cellsOf f.type)) = xs[i]?)
    (h1 : fs[i]? = some f) (h2 : f.type = t) (h3 : f.offset = off) [sb : SubC c off c' get set True] [ty : Ty P t c' z bytes] [dt : DtT P t c' D] : (xs.map (·.1))[i]? = some (D (get a)) := by
  have hi : i < xs.length := by
    have := (Array.getElem?_eq_some_iff.1 h1).1
    omega
  have := hf i f h1
  rw [List.getElem?_eq_getElem hi, h2, h3, cellsOf_ty (c := c'), sb.get_eq trivial] at this
  rw [List.getElem?_map, List.getElem?_eq_getElem hi, Option.map_some, dt.out this]
end Go.Dn
