/-
  Own framework, part U: maps whose keys are integers; functions of the library that the model answers itself.
  Conditions: none; general over any program.
-/
import Derived.Test.YtipjamgjgijeeaaDnT
import GoSem.Extern.MapsClone
set_option linter.unusedSectionVars false
set_option synthInstance.maxSize 10000
set_option synthInstance.maxHeartbeats 400000
set_option maxHeartbeats 2000000
namespace Go.Dn
set_option linter.unusedSimpArgs false
set_option linter.unusedVariables false
variable {P : Program} [sd : Side]
/-- A map: its entries as they lie. -/
def mp {α : Type} (r : Nat) (k : IntKind) (c : Cd α) (l : List (Int × α)) : HProp := fun h => ∃ (es : Array MapEntry) (clock : Nat), h = sng r (.map es clock) ∧ es.toList.map (fun e => (e.key, e.val)) = l.map (fun x => (Value.int k x.1, c.val x.2))
class PickM (r : Nat) (L : List HProp) (k : outParam IntKind) {α : outParam Type} (c : outParam (Cd α)) (l : outParam (List (Int × α))) (L' : outParam (List (Int × α) → List HProp)) : Prop where
  out : ∃ M, (∀ h, sats L h → sats (mp r k c l :: M) h) ∧ ∀ l' h, sats (mp r k c l' :: M) h → sats (L' l') h
instance PickM.here {α : Type} {r : Nat} {k : IntKind} {c : Cd α} {l : List (Int × α)} {L : List HProp} : PickM r (mp r k c l :: L) k c l (fun y => mp r k c y :: L) :=
  ⟨L, fun _ h => h, fun _ _ h => h⟩
instance (priority := low) PickM.there {α : Type} {r : Nat} {k : IntKind} {c : Cd α} {l : List (Int × α)} {A : HProp} {L : List HProp} {L' : List (Int × α) → List HProp} [pk : PickM r L k c l L'] : PickM r (A :: L) k c l (fun y => A :: L' y) :=
  let ⟨M, h1, h2⟩ := pk.out
  ⟨A :: M, fun _ h => sats_swap (sats_tail h1 h), fun a' _ h => sats_tail (h2 a') (sats_swap h)⟩
/-- The entry of a key: its place and what it holds. -/
def fnd {α : Type} : List (Int × α) → Int → Nat → Option (Nat × α)
  | [], _, _ => none
  | (y, a) :: l, x, i => if x = y then some (i, a) else fnd l x (i + 1)
def lkp {α : Type} (l : List (Int × α)) (x : Int) : Option α := (fnd l x 0).map (·.2)
def upd {α : Type} : List (Int × α) → Int → α → List (Int × α)
  | [], x, a => [(x, a)]
  | (y, b) :: l, x, a => if x = y then (x, a) :: l else (y, b) :: upd l x a
def del {α : Type} : List (Int × α) → Int → List (Int × α)
  | [], _ => []
  | (y, b) :: l, x => if x = y then l else (y, b) :: del l x
theorem fnd_shift {α : Type} : ∀ (l : List (Int × α)) (x : Int) (i j : Nat), fnd l x (i + j) = (fnd l x i).map fun p => (p.1 + j, p.2)
  | [], _, _, _ => rfl
  | (y, a) :: l, x, i, j => by
    unfold fnd
    split
    · rfl
    · rw [show i + j + 1 = (i + 1) + j from by omega]
      exact fnd_shift l x (i + 1) j
theorem lkp_cons {α : Type} (y : Int) (a : α) (l : List (Int × α)) (x : Int) : lkp ((y, a) :: l) x = if x = y then some a else lkp l x := by
  unfold lkp
  rw [fnd]
  split
  · rfl
  · rw [show 0 + 1 = 0 + 1 from rfl, fnd_shift l x 0 1, Option.map_map]
    rfl
theorem lkp_nil {α : Type} (x : Int) : lkp ([] : List (Int × α)) x = none := rfl
theorem lkp_upd {α : Type} : ∀ (l : List (Int × α)) (x y : Int) (a : α), lkp (upd l x a) y = if y = x then some a else lkp l y
  | [], x, y, a => by rw [upd, lkp_cons, lkp_nil]
  | (z, b) :: l, x, y, a => by
    rw [upd]
    split
    · rename_i h; subst h
      rw [lkp_cons, lkp_cons]
      split <;> rfl
    · rename_i h
      rw [lkp_cons, lkp_cons, lkp_upd l x y a]
      by_cases hy : y = z
      · subst hy; rw [if_pos rfl, if_neg (Ne.symm h), if_pos rfl]
      · rw [if_neg hy, if_neg hy]
/-- No key twice. -/
def uniq {α : Type} (l : List (Int × α)) : Prop := (l.map (·.1)).Nodup
theorem upd_keys {α : Type} : ∀ (l : List (Int × α)) (x : Int) (a : α), (upd l x a).map (·.1) = if x ∈ l.map (·.1) then l.map (·.1) else l.map (·.1) ++ [x]
  | [], x, a => by simp [upd]
  | (y, b) :: l, x, a => by
    rw [upd]
    by_cases h : x = y
    · rw [if_pos h]; subst h; simp
    · rw [if_neg h, List.map_cons, upd_keys l x a]
      simp only [List.map_cons, List.mem_cons, h, false_or]
      split <;> simp
theorem upd_uniq {α : Type} {l : List (Int × α)} (h : uniq l) (x : Int) (a : α) : uniq (upd l x a) := by
  unfold uniq at *
  rw [upd_keys]
  split
  · exact h
  · rename_i hx
    rw [List.nodup_append]
    refine ⟨h, by simp, fun y hy z hz hyz => ?_⟩
    simp only [List.mem_singleton] at hz
    subst hz hyz
    exact hx hy
theorem lkp_none {α : Type} : ∀ {l : List (Int × α)} {x : Int}, lkp l x = none ↔ x ∉ l.map (·.1)
  | [], x => by simp [lkp_nil]
  | (y, a) :: l, x => by
    rw [lkp_cons]
    by_cases h : x = y
    · subst h; simp
    · rw [if_neg h, lkp_none]; simp [h]
theorem upd_len {α : Type} : ∀ (l : List (Int × α)) (x : Int) (a : α), (upd l x a).length = if (lkp l x).isSome then l.length else l.length + 1
  | [], x, a => by simp [upd, lkp_nil]
  | (y, b) :: l, x, a => by
    rw [upd, lkp_cons]
    by_cases h : x = y
    · rw [if_pos h, if_pos h]; simp
    · rw [if_neg h, if_neg h, List.length_cons, upd_len l x a]; split <;> simp
theorem del_keys {α : Type} : ∀ (l : List (Int × α)) (x : Int), (del l x).map (·.1) = (l.map (·.1)).erase x
  | [], x => rfl
  | (y, b) :: l, x => by
    rw [del]
    by_cases h : x = y
    · rw [if_pos h]; subst h; simp
    · rw [if_neg h, List.map_cons, del_keys l x, List.map_cons, List.erase_cons_tail (by simpa using Ne.symm h)]
theorem del_uniq {α : Type} {l : List (Int × α)} (h : uniq l) (x : Int) : uniq (del l x) := by
  unfold uniq at *
  rw [del_keys]
  exact h.erase x
theorem lkp_del {α : Type} : ∀ {l : List (Int × α)} (_ : uniq l) (x y : Int), lkp (del l x) y = if y = x then none else lkp l y
  | [], _, x, y => by simp [del, lkp_nil]
  | (z, b) :: l, h, x, y => by
    have h' : uniq l := by unfold uniq at *; rw [List.map_cons, List.nodup_cons] at h; exact h.2
    have hz : z ∉ l.map (·.1) := by unfold uniq at h; rw [List.map_cons, List.nodup_cons] at h; exact h.1
    rw [del]
    by_cases hx : x = z
    · rw [if_pos hx]; subst hx
      rw [lkp_cons]
      by_cases hy : y = x
      · rw [if_pos hy]; subst hy; exact lkp_none.2 hz
      · rw [if_neg hy, if_neg hy]
    · rw [if_neg hx, lkp_cons, lkp_cons, lkp_del h' x y]
      by_cases hy : y = z
      · rw [if_pos hy, if_pos hy, if_neg (by rw [hy]; exact Ne.symm hx)]
      · rw [if_neg hy, if_neg hy]
/-! ## The machine's maps -/
theorem run_checkKey {t : TypeId} {k j : IntKind} [it : InT P t k] {x : Int} {e : Bool} {w : World} : (Instr.checkKey e 10000 t (.int j x)).run P w = .ok () w := by
  rw [show (10000 : Nat) = 9999 + 1 from rfl, Instr.checkKey]
  simp only [Sem.run_bind, run_und it.und, Result.andThen]
  rfl
theorem findNow_eq {k k' : IntKind} {α : Type} {c : Cd α} {x : Int} : ∀ (es : List MapEntry) (l : List (Int × α)) (i : Nat), es.map (fun e => (e.key, e.val)) = l.map (fun x => (Value.int k x.1, c.val x.2)) →
    Instr.findNow (.int k') (.int k x) es i = some ((fnd l x i).map fun p => (p.1, c.val p.2))
  | [], [], i, _ => rfl
  | [], _ :: _, _, h => by simp at h
  | _ :: _, [], _, h => by simp at h
  | e :: es, (y, a) :: l, i, h => by
    simp only [List.map_cons, List.cons.injEq, Prod.mk.injEq] at h
    obtain ⟨⟨h1, h2⟩, h3⟩ := h
    unfold Instr.findNow fnd
    rw [h1, h2]
    simp only [Instr.sameNow, if_true]
    by_cases hx : x = y
    · subst hx; simp
    · have : (x == y) = false := by simp [hx]
      rw [this, if_neg hx]
      exact findNow_eq es l (i + 1) h3
theorem run_findKey {t : TypeId} {k : IntKind} [it : InT P t k] {α : Type} {c : Cd α} {x : Int} {w : World} {es : List MapEntry} {l : List (Int × α)} (h : es.map (fun e => (e.key, e.val)) = l.map (fun x => (Value.int k x.1, c.val x.2))) :
    (Instr.findKey t (.int k x) es).run P w = .ok ((fnd l x 0).map fun p => (p.1, c.val p.2)) w := by
  unfold Instr.findKey
  simp only [Sem.run_bind, run_und it.und, Result.andThen, findNow_eq es l 0 h]
  rfl
theorem fnd_lt {α : Type} : ∀ {l : List (Int × α)} {x : Int} {i j : Nat} {a : α}, fnd l x i = some (j, a) → i ≤ j ∧ j < i + l.length
  | (y, b) :: l, x, i, j, a, h => by
    unfold fnd at h
    split at h
    · simp only [Option.some.injEq, Prod.mk.injEq] at h; simp; omega
    · have := fnd_lt h; simp; omega
theorem upd_fnd {α : Type} {k : IntKind} {c : Cd α} : ∀ (l : List (Int × α)) (x : Int) (a : α), (upd l x a).map (fun p => (Value.int k p.1, c.val p.2)) = match fnd l x 0 with
    | some (i, _) => (l.map fun p => (Value.int k p.1, c.val p.2)).modify i fun _ => (Value.int k x, c.val a)
    | none => (l.map fun p => (Value.int k p.1, c.val p.2)) ++ [(Value.int k x, c.val a)]
  | [], x, a => rfl
  | (y, b) :: l, x, a => by
    rw [upd, fnd]
    by_cases h : x = y
    · rw [if_pos h, if_pos h]; rfl
    · rw [if_neg h, if_neg h, List.map_cons, upd_fnd l x a, fnd_shift l x 0 1]
      cases fnd l x 0 with
      | none => rfl
      | some p => rfl
theorem del_fnd {α : Type} {k : IntKind} {c : Cd α} : ∀ (l : List (Int × α)) (x : Int), (del l x).map (fun p => (Value.int k p.1, c.val p.2)) = match fnd l x 0 with
    | some (i, _) => (l.map fun p => (Value.int k p.1, c.val p.2)).eraseIdx i
    | none => l.map fun p => (Value.int k p.1, c.val p.2)
  | [], x => rfl
  | (y, b) :: l, x => by
    rw [del, fnd]
    by_cases h : x = y
    · rw [if_pos h, if_pos h]; rfl
    · rw [if_neg h, if_neg h, List.map_cons, del_fnd l x, fnd_shift l x 0 1]
      cases fnd l x 0 with
      | none => rfl
      | some p => rfl
theorem map_erase {α β : Type} {f : α → β} : ∀ (l : List α) (i : Nat), (l.eraseIdx i).map f = (l.map f).eraseIdx i
  | [], _ => rfl
  | x :: l, 0 => rfl
  | x :: l, i + 1 => by simp only [List.eraseIdx_cons_succ, List.map_cons, map_erase l i]
theorem setObj_hof {b : Nat} {o o' : Obj} {w : World} {M : List HProp} {A : HProp} (hA : ∀ h, A h → h = sng b o) (hs : sats (A :: M) (hof w)) : sats ((fun h => h = sng b o') :: M) (hof { w with heap := w.heap.setIfInBounds b o' }) := by
  have hb := sng_get hA hs
  have hlt : b < w.heap.size := (Array.getElem?_eq_some_iff.1 hb).1
  refine sats_set (b := b) (o := o) (sats_head hA hs) ?_ ?_
  · simp [hof, hlt]
  · intro i hi
    simp [hof, Array.getElem?_setIfInBounds_ne (Ne.symm hi)]
section
variable {L : List HProp} {K : Value → W} {α : Type} {c : Cd α} {l : List (Int × α)} {L' : List (Int × α) → List HProp} {t kt et : TypeId} {k : IntKind} {z : α} {bytes : Nat}
theorem sat_mp {r : Nat} {M : List HProp} {w : World} (h : sats (mp r k c l :: M) (hof w)) : ∃ (es : Array MapEntry) (clock : Nat), w.heap[r]? = some (.map es clock) ∧ es.toList.map (fun e => (e.key, e.val)) = l.map (fun x => (Value.int k x.1, c.val x.2)) ∧ sats ((fun h => h = sng r (.map es clock)) :: M) (hof w) := by
  obtain ⟨h1, h2, d, e, ⟨es, clock, rfl, hes⟩, hM⟩ := h
  have hs : sats ((fun h => h = sng r (.map es clock)) :: M) (hof w) := ⟨sng r _, h2, d, e, rfl, hM⟩
  exact ⟨es, clock, sng_get (fun _ h => h) hs, hes, hs⟩
instance St.makeMap [mt : MpT P t kt et] [it : InT P kt k] [ty : Ty P et c z bytes] : St L (ef P (Instr.makeMap t none) K) True (∀ r, Ent (mp r k c [] :: L) (K (.map (some r)))) :=
  ⟨fun _ h w hw => by
    refine ⟨_, _, rfl, h w.heap.size _ ?_⟩
    have := sat_new hw (.map #[] 0)
    exact ⟨sats_head (fun h hh => ⟨#[], 0, hh, rfl⟩) this.1, this.2⟩⟩
instance St.makeMapR [mt : MpT P t kt et] [it : InT P kt k] [ty : Ty P et c z bytes] {j : IntKind} {n : Int} : St L (ef P (Instr.makeMap t (some (.int j n))) K) True (∀ r, Ent (mp r k c [] :: L) (K (.map (some r)))) :=
  ⟨fun _ h w hw => by
    refine ⟨_, { w with heap := w.heap.push (.map #[] 0) }, ?_, h w.heap.size _ ?_⟩
    · unfold Instr.makeMap
      simp only [Sem.run_bind, run_und mt.und, Result.andThen, asInt, asIntOf, Sem.run_pure]
      rfl
    have := sat_new hw (.map #[] 0)
    exact ⟨sats_head (fun h hh => ⟨#[], 0, hh, rfl⟩) this.1, this.2⟩⟩
theorem run_lookup [mt : MpT P t kt et] [it : InT P kt k] [ty : Ty P et c z bytes] {r : Nat} {x : Int} {ok : Bool} {w : World} {M : List HProp} (h : sats (mp r k c l :: M) (hof w)) :
    (Instr.lookup t (.map (some r)) (.int k x) ok).run P w = .ok (if ok then .tuple #[c.val ((lkp l x).getD z), .bool (lkp l x).isSome] else c.val ((lkp l x).getD z)) w := by
  obtain ⟨es, clock, hb, hes, _⟩ := sat_mp h
  unfold Instr.lookup
  simp only [Sem.run_bind, run_und mt.und, Result.andThen, run_getObj hb rfl, Sem.run_pure, run_checkKey, run_findKey hes]
  unfold lkp
  cases hf : fnd l x 0 with
  | none =>
    simp only [Option.map_none, Sem.run_bind, run_zero (c := c) (z := z), Result.andThen, Sem.run_pure]
    cases ok <;> rfl
  | some p =>
    simp only [Option.map_some, Sem.run_pure]
    cases ok <;> rfl
instance St.lookupT [mt : MpT P t kt et] [it : InT P kt k] [ty : Ty P et c z bytes] {r : Nat} {x : Int} [pk : PickM r L k c l L'] :
    St L (rd P (Instr.lookup t (.map (some r)) (.int k x) true) K) True (Ent L (K (.tuple #[c.val ((lkp l x).getD z), .bool (lkp l x).isSome]))) :=
  ⟨fun _ h w hw => by
    obtain ⟨M, h1, _⟩ := pk.out
    exact ⟨_, run_lookup (z := z) (ok := true) (h1 _ hw.1), h w hw⟩⟩
instance St.lookupF [mt : MpT P t kt et] [it : InT P kt k] [ty : Ty P et c z bytes] {r : Nat} {x : Int} [pk : PickM r L k c l L'] :
    St L (rd P (Instr.lookup t (.map (some r)) (.int k x) false) K) True (Ent L (K (c.val ((lkp l x).getD z)))) :=
  ⟨fun _ h w hw => by
    obtain ⟨M, h1, _⟩ := pk.out
    exact ⟨_, run_lookup (z := z) (ok := false) (h1 _ hw.1), h w hw⟩⟩
instance St.lookupck [mt : MpT P t kt et] [it : InT P kt k] [ty : Ty P et c z bytes] {r : Nat} {x : Int} {ok : Bool} [pk : PickM r L k c l L'] {u : Value} {A : W} :
    St L (andW (ck P none (Instr.lookup t (.map (some r)) (.int k x) ok) u) A) True (u = (if ok then .tuple #[c.val ((lkp l x).getD z), .bool (lkp l x).isSome] else c.val ((lkp l x).getD z)) ∧ Ent L A) :=
  ⟨fun _ h w hw => ⟨fun _ => by
    obtain ⟨M, h1, _⟩ := pk.out
    rw [h.1]
    exact run_lookup (z := z) (h1 _ hw.1), h.2 w hw⟩⟩
theorem run_mapUpdate [mt : MpT P t kt et] [it : InT P kt k] {r : Nat} {x : Int} {a : α} {w : World} {M : List HProp} (h : sats (mp r k c l :: M) (hof w)) :
    ∃ w', (unitS (Instr.mapUpdate t (.map (some r)) (.int k x) (c.val a))).run P w = .ok undef w' ∧ sats (mp r k c (upd l x a) :: M) (hof w') ∧ Same w w' := by
  obtain ⟨es, clock, hb, hes, hs⟩ := sat_mp h
  have hu := upd_fnd (k := k) (c := c) l x a
  unfold unitS Instr.mapUpdate
  simp only [Sem.run_bind, run_und mt.und, Result.andThen, run_getObj hb rfl, Sem.run_pure, run_checkKey, run_findKey hes]
  cases hf : fnd l x 0 with
  | none =>
    rw [hf] at hu
    simp only [Option.map_none, Sem.run_bind, run_setObj hb rfl, Result.andThen, Sem.run_pure]
    refine ⟨_, rfl, sats_head (fun h hh => ⟨_, _, hh, ?_⟩) (setObj_hof (fun _ h => h) hs), rfl, rfl, rfl⟩
    rw [hu, ← hes]
    simp
  | some p =>
    obtain ⟨i, b⟩ := p
    rw [hf] at hu
    have hi : i < es.size := by
      have h1 := (fnd_lt hf).2
      have h2 := congrArg List.length hes
      simp only [List.length_map, Array.length_toList] at h2
      omega
    have hkey : ((es[i]?).map (·.key)).getD (.int k x) = .int k x := by
      have h1 : (es.toList.map (fun e => (e.key, e.val)))[i]? = (l.map (fun x => (Value.int k x.1, c.val x.2)))[i]? := by rw [hes]
      rw [List.getElem?_map, List.getElem?_map] at h1
      have h2 : (l[i]?).map (·.1) = some x := by
        clear h1 hu hi hes h hs
        have key : ∀ (l : List (Int × α)) (s i : Nat) (b : α), fnd l x s = some (i, b) → (l[i - s]?).map (·.1) = some x := by
          intro l
          induction l with
          | nil => intro s i b h; simp [fnd] at h
          | cons q l ih =>
            intro s i b h
            obtain ⟨y, d⟩ := q
            unfold fnd at h
            split at h
            · rename_i hxy
              simp only [Option.some.injEq, Prod.mk.injEq] at h
              rw [← h.1, Nat.sub_self]
              simp [hxy]
            · have h3 := (fnd_lt h).1
              have h4 := ih (s + 1) i b h
              rw [show i - s = (i - (s + 1)) + 1 from by omega]
              simpa using h4
        exact key l 0 i b hf
      simp only [Array.getElem?_toList] at h1
      cases he : es[i]? with
      | none => rw [he] at h1; rw [Option.map_none] at h1; cases hl : l[i]? <;> simp [hl] at h1 h2
      | some e =>
        rw [he] at h1
        cases hl : l[i]? with
        | none => rw [hl] at h2; simp at h2
        | some q =>
          rw [hl] at h1 h2
          simp only [Option.map_some, Option.some.injEq, Prod.mk.injEq] at h1 h2
          simp only [Option.map_some, Option.getD_some]
          rw [h1.1, h2]
    simp only [Option.map_some, hkey, Instr.keyThatStays]
    have hsb : Instr.sameBits 10000 (.int k x) (.int k x) = true := by
      rw [show (10000 : Nat) = 9999 + 1 from rfl, Instr.sameBits]; simp
    simp only [hsb, if_true, Sem.run_bind, Sem.run_pure, Result.andThen, run_setObj hb rfl]
    refine ⟨_, rfl, sats_head (fun h hh => ⟨_, _, hh, ?_⟩) (setObj_hof (fun _ h => h) hs), rfl, rfl, rfl⟩
    rw [hu, ← hes]
    simp only
    apply List.ext_getElem?
    intro j
    rw [List.getElem?_map, List.getElem?_modify, List.getElem?_map]
    simp only [Array.getElem?_toList, Array.getElem?_modify]
    by_cases hij : i = j
    · subst hij
      simp only [if_true]
      cases es[i]? <;> rfl
    · simp only [hij, if_false]
      cases es[j]? <;> rfl
instance St.mapUpdate [mt : MpT P t kt et] [it : InT P kt k] {r : Nat} {x : Int} {a : α} {v : Value} [pk : PickM r L k c l L'] [vo : VOf c v a] :
    St L (ef P (unitS (Instr.mapUpdate t (.map (some r)) (.int k x) v)) K) True (Ent (L' (upd l x a)) (K undef)) :=
  ⟨fun _ h w hw => by
    obtain ⟨M, h1, h2⟩ := pk.out
    obtain ⟨w', g1, g2, g3⟩ := run_mapUpdate (P := P) (t := t) (x := x) (a := a) (h1 _ hw.1)
    rw [vo.out]
    exact ⟨_, w', g1, h w' ⟨h2 _ _ g2, sd.keep g3 hw.2⟩⟩⟩
instance St.delete [mt : MpT P t kt et] [it : InT P kt k] {t2 ty : TypeId} {r : Nat} {x : Int} [pk : PickM r L k c l L'] :
    St L (ef P (Builtin.delete_ #[t, t2] ty [.map (some r), .int k x].toArray) K) True (Ent (L' (del l x)) (K (.tuple #[]))) :=
  ⟨fun _ h w hw => by
    obtain ⟨M, h1, h2⟩ := pk.out
    obtain ⟨es, clock, hb, hes, hs⟩ := sat_mp (h1 _ hw.1)
    have hu := del_fnd (k := k) (c := c) l x
    have key : ∀ es' : Array MapEntry, es'.toList.map (fun e => (e.key, e.val)) = (del l x).map (fun x => (Value.int k x.1, c.val x.2)) → Sat (L' (del l x)) { w with heap := w.heap.setIfInBounds r (.map es' clock) } := fun es' he =>
      ⟨h2 _ _ (sats_head (fun h hh => ⟨_, _, hh, he⟩) (setObj_hof (fun _ h => h) hs)), sd.keep (w := w) ⟨rfl, rfl, rfl⟩ hw.2⟩
    cases hf : fnd l x 0 with
    | none =>
      rw [hf] at hu
      refine ⟨_, _, ?_, h _ (key es (by rw [hu, hes]))⟩
      unfold Builtin.delete_
      simp only [List.getElem?_toArray, List.getElem?_cons_zero, List.getElem?_cons_succ, Sem.run_bind, run_und mt.und, Result.andThen, run_getObj hb rfl, Sem.run_pure, run_checkKey, run_findKey hes, hf, Option.map_none, run_setObj hb rfl]
    | some p =>
      obtain ⟨i, b⟩ := p
      rw [hf] at hu
      refine ⟨_, _, ?_, h _ (key (es.eraseIdxIfInBounds i) ?_)⟩
      · unfold Builtin.delete_
        simp only [List.getElem?_toArray, List.getElem?_cons_zero, List.getElem?_cons_succ, Sem.run_bind, run_und mt.und, Result.andThen, run_getObj hb rfl, Sem.run_pure, run_checkKey, run_findKey hes, hf, Option.map_some, run_setObj hb rfl]
      · rw [hu, ← hes]
        simp only
        have hi : i < es.size := by
          have h3 := (fnd_lt hf).2
          have h4 := congrArg List.length hes
          simp only [List.length_map, Array.length_toList] at h4
          omega
        rw [Array.eraseIdxIfInBounds, dif_pos hi, Array.toList_eraseIdx, map_erase]⟩
instance St.lenM [mt : MpT P t kt et] {ty : TypeId} {r : Nat} [pk : PickM r L k c l L'] :
    St L (rd P (Builtin.len_ #[t] ty [.map (some r)].toArray) K) True (Ent L (K (.int .i64 l.length))) :=
  ⟨fun _ h w hw => by
    obtain ⟨M, h1, _⟩ := pk.out
    obtain ⟨es, clock, hb, hes, _⟩ := sat_mp (h1 _ hw.1)
    refine ⟨_, ?_, h w hw⟩
    have h4 := congrArg List.length hes
    simp only [List.length_map, Array.length_toList] at h4
    unfold Builtin.len_
    simp only [List.getElem?_toArray, List.getElem?_cons_zero, List.size_toArray]
    show (underlying t >>= _).run P w = _
    rw [Sem.run_bind, run_und mt.und]
    simp only [Result.andThen, Builtin.lenOf, Sem.run_bind, run_getObj hb rfl, Sem.run_pure, h4]
    rfl⟩
end
/-! ## Interfaces -/
class NotIf (P : Program) (t : TypeId) : Prop where
  out : ∃ d, P.underlying t = some d ∧ (match d with
    | .interface _ => false
    | _ => true) = true
theorem prun_makeIf {xt : TypeId} [nd : NotIf P xt] {v : Value} : (∀ w, (Instr.makeInterface xt v).run P w = .ok (.iface xt v) w) := fun w => by
  obtain ⟨d, hd, hn⟩ := nd.out
  unfold Instr.makeInterface
  rw [Sem.run_bind, run_und hd]
  cases d <;> first | rfl | cases hn
instance St.makeIf {L : List HProp} {K : Value → W} {xt : TypeId} [NotIf P xt] {v : Value} : St L (ef P (Instr.makeInterface xt v) K) True (Ent L (K (.iface xt v))) :=
  ⟨fun _ h w hw => ⟨_, w, prun_makeIf w, h w hw⟩⟩
instance St.typeAssert {L : List HProp} {K : Value → W} {xt a : TypeId} {v : Value} [nd : NotIf P a] : St L (pu P (Instr.typeAssert (.iface a v) xt a false) K) True (Ent L (K v)) :=
  ⟨fun _ h => by
    obtain ⟨d, hd, hn⟩ := nd.out
    refine ent_pu ?_ h
    unfold Instr.typeAssert
    rw [prun_und hd]
    cases d <;> first | (simp only [if_true, Bool.false_eq_true, if_false]; rfl) | cases hn⟩
/-! ## maps.clone -/
theorem ent_extern {L : List HProp} {f : FuncId} {args : List Value} {K : Value → W} (h : ∀ w, Sat L w → ∃ v w', (callFunc f args.toArray).run P w = .ok (.value v) w' ∧ K v w') : Ent L (callC P f args K) := fun w hw => .inr (h w hw)
/-- The library's clone of a map that is there. -/
class ClT (P : Program) (f : FuncId) : Prop where
  out : ∃ fn, P.funcs[f]? = some fn ∧ (fn.name == "runtime.NumGoroutine") = false ∧ fn.body.isNone = true ∧ (Extern.findNext fn).isNone = true ∧ Extern.find fn = some Extern.MapsClone.clone
theorem ent_clone {L : List HProp} {f : FuncId} {t : TypeId} {r : Nat} {K : Value → W} {k : IntKind} {α : Type} {c : Cd α} {l : List (Int × α)} {L' : List (Int × α) → List HProp} [ct : ClT P f] [pk : PickM r L k c l L']
    (h : ∀ q, Ent (mp q k c l :: L) (K (.iface t (.map (some q))))) : Ent L (callC P f [.iface t (.map (some r))] K) := by
  refine ent_extern fun w hw => ?_
  obtain ⟨fn, h1, h2, h3, h4, h5⟩ := ct.out
  obtain ⟨M, g1, _⟩ := pk.out
  obtain ⟨es, clock, hb, hes, _⟩ := sat_mp (g1 _ hw.1)
  have hn := sat_new hw (.map es clock)
  refine ⟨.iface t (.map (some w.heap.size)), { w with heap := w.heap.push (.map es clock) }, ?_, h w.heap.size _ ⟨sats_head (fun h hh => ⟨es, clock, hh, hes⟩) hn.1, hn.2⟩⟩
  unfold callFunc
  rw [Sem.run_bind, show Sem.run P program w = .ok P w from rfl]
  simp only [Result.andThen, h1]
  rw [if_neg (by rw [h2]; simp), if_pos h3, Sem.run_bind]
  have hmark : (mark (.extern f)).run P w = .ok () w := rfl
  rw [hmark]
  simp only [Result.andThen, Option.isNone_iff_eq_none.1 h4, h5]
  have hc : Extern.MapsClone.clone [Value.iface t (.map (some r))].toArray = (do
      let .map entries clock ← getObj r | stuck "maps.clone: a map expected"
      pure (.iface t (.map (some (← newObj (.map entries clock)))))) := rfl
  rw [hc]
  simp only [Sem.run_bind, run_getObj hb rfl, Result.andThen, newObj, Sem.run, Sem.run_pure]
end Go.Dn
