/-
  Own framework, part I: how data lie in cells; what loads, stores and new memory do.
  Conditions: none; general over any program.
-/
import Derived.Test.YtipjamgjgijeeaaDnH
namespace Go.Dn
set_option linter.unusedSimpArgs false
set_option linter.unusedVariables false
variable {P : Program}

def oneC : Value → Bool
  | .agg _ => false
  | .tuple _ => false
  | _ => true
/-- How a type's data lie in cells. -/
structure Cd (α : Type) where
  n : Nat
  agg : Bool
  cells : α → List Value
  val : α → Value
  len : ∀ x, (cells x).length = n
  one : ∀ x, ∀ v ∈ cells x, oneC v = true
  aggv : agg = true → ∀ x, val x = .agg (cells x).toArray
  sca : agg = false → ∀ x, cells x = [val x]
theorem Cd.vcells {α : Type} (c : Cd α) (x : α) : (c.val x).cells = (c.cells x).toArray := by
  cases h : c.agg with
  | true => rw [c.aggv h]; rfl
  | false =>
    have h1 := c.sca h x
    have h2 := c.one x (c.val x) (by rw [h1]; exact .head _)
    rw [h1]
    cases hv : c.val x <;> first | rfl | (rw [hv] at h2; cases h2)
theorem Cd.sca_n {α : Type} (c : Cd α) (h : c.agg = false) (x : α) : c.n = 1 := by rw [← c.len x, c.sca h]; rfl
def scaCd {α : Type} (f : α → Value) (h : ∀ x, oneC (f x) = true) : Cd α where
  n := 1
  agg := false
  cells x := [f x]
  val := f
  len _ := rfl
  one x v hv := by simp only [List.mem_singleton] at hv; subst hv; exact h x
  aggv h := by cases h
  sca _ _ := rfl
def aggCd {α : Type} (n : Nat) (f : α → List Value) (hl : ∀ x, (f x).length = n) (h : ∀ x, ∀ v ∈ f x, oneC v = true) : Cd α where
  n := n
  agg := true
  cells := f
  val x := .agg (f x).toArray
  len := hl
  one := h
  aggv _ _ := rfl
  sca h := by cases h
/-- A slice's three words. -/
structure Sl where
  a : Option Addr
  len : Nat
  cap : Nat
abbrev Sl.nil : Sl := ⟨none, 0, 0⟩
def cInt (k : IntKind) : Cd Int := scaCd (.int k) fun _ => rfl
def cU8 : Cd UInt8 := scaCd (fun u => .int .u8 (u.toNat : Int)) fun _ => rfl
def cBool : Cd Bool := scaCd .bool fun _ => rfl
def cPtr : Cd (Option Addr) := scaCd .pointer fun _ => rfl
def cMap : Cd (Option Nat) := scaCd .map fun _ => rfl
def cStr : Cd ByteArray := scaCd .string fun _ => rfl
def sv (s : Sl) : Value := .slice s.a s.len s.cap
def cSl : Cd Sl := scaCd sv fun _ => rfl
def Fv : Type := { v : Value // oneC v = true }
def cFn : Cd Fv := scaCd (fun v => v.1) fun v => v.2
/-- Elements one behind the other. -/
def flat {α : Type} (c : Cd α) (xs : List α) : List Value := xs.flatMap c.cells
theorem flat_len {α : Type} (c : Cd α) (xs : List α) : (flat c xs).length = xs.length * c.n := by
  induction xs with
  | nil => simp [flat]
  | cons x xs ih =>
    simp only [flat, List.flatMap_cons, List.length_append, c.len, List.length_cons] at ih ⊢
    rw [ih, Nat.add_mul, Nat.one_mul, Nat.add_comm]
theorem flat_append {α : Type} (c : Cd α) (xs ys : List α) : flat c (xs ++ ys) = flat c xs ++ flat c ys := by simp [flat]
/-- Arrays. -/
structure Arr (n : Nat) (α : Type) where
  l : List α
  len : l.length = n
def cArr {α : Type} (n : Nat) (c : Cd α) : Cd (Arr n α) := aggCd (n * c.n) (fun x => flat c x.l) (fun x => by rw [flat_len, x.len]) (fun x v hv => by
  simp only [flat, List.mem_flatMap] at hv
  obtain ⟨y, _, hy⟩ := hv
  exact c.one y v hy)

/-! ## Types of a program -/
def aggD : TypeDesc → Bool
  | .struct _ => true
  | .array _ _ => true
  | _ => false
class Ty (P : Program) (t : TypeId) {α : outParam Type} (c : outParam (Cd α)) (z : outParam α) (bytes : outParam Nat) : Prop where
  und : ∃ d, P.underlying t = some d ∧ aggD d = c.agg
  info : ∃ i, P.info? t = some i ∧ i.size = c.n ∧ i.bytes = bytes ∧ i.zero = some (c.val z)
  pos : 0 < bytes
class SlT (P : Program) (t : TypeId) (e : outParam TypeId) : Prop where
  und : P.underlying t = some (.slice e)
class ArT (P : Program) (t : TypeId) (n : outParam Nat) (e : outParam TypeId) : Prop where
  und : P.underlying t = some (.array n e)
class FldT (P : Program) (t : TypeId) (k : Nat) (off : outParam Nat) : Prop where
  out : ∃ fs f i, P.underlying t = some (.struct fs) ∧ fs[k]? = some f ∧ P.info? f.type = some i ∧ i.size ≠ 0 ∧ f.offset = off

theorem run_und {t : TypeId} {d : TypeDesc} (h : P.underlying t = some d) (w : World) : (underlying t).run P w = .ok d w := by
  simp only [underlying, Sem.run_bind, show Sem.run P program w = .ok P w from rfl, Result.andThen, h]
  rfl
theorem run_info {t : TypeId} {i : TypeInfo} (h : P.info? t = some i) (w : World) : (typeInfo t).run P w = .ok i w := by
  simp only [typeInfo, Sem.run_bind, show Sem.run P program w = .ok P w from rfl, Result.andThen, h]
  rfl
theorem run_size {t : TypeId} {i : TypeInfo} (h : P.info? t = some i) (w : World) : (sizeOf t).run P w = .ok i.size w := by
  simp only [sizeOf, Sem.run_bind, run_info h, Result.andThen, Sem.run_pure]
theorem run_agg {t : TypeId} {d : TypeDesc} (h : P.underlying t = some d) (w : World) : (isAgg t).run P w = .ok (aggD d) w := by
  simp only [isAgg, Sem.run_bind, run_und h, Result.andThen]
  cases d <;> rfl
theorem prun_und {t : TypeId} {d : TypeDesc} (h : P.underlying t = some d) {α : Type} (k : TypeDesc → Sem α) : prun P (underlying t >>= k) = prun P (k d) := by
  simp only [underlying, program, bind, Sem.bind, prun, h, pure]
theorem prun_info {t : TypeId} {i : TypeInfo} (h : P.info? t = some i) {α : Type} (k : TypeInfo → Sem α) : prun P (typeInfo t >>= k) = prun P (k i) := by
  simp only [typeInfo, program, bind, Sem.bind, prun, h, pure]
theorem prun_size {t : TypeId} {i : TypeInfo} (h : P.info? t = some i) {α : Type} (k : Nat → Sem α) : prun P (sizeOf t >>= k) = prun P (k i.size) := by
  simp only [sizeOf, typeInfo, program, bind, Sem.bind, prun, h, pure]

/-! ## Memory -/
theorem add_addr (b off n : Nat) : (⟨b, off, none⟩ : Addr).add n = ⟨b, off + n, none⟩ := by
  unfold Addr.add
  by_cases h : n = 0
  · subst h; simp
  · simp [h]
theorem run_load1 {w : World} {b off : Nat} {l : List Value} {T : TypeId} {fz : Nat × Nat} {v : Value} (h : w.heap[b]? = some (.cells l.toArray T fz)) (hv : l[off]? = some v) :
    (load ⟨b, off, none⟩).run P w = .ok v w := by
  have : w.cell? ⟨b, off, none⟩ = some v := by simp [World.cell?, h, hv]
  simp [load, Sem.run, this]
theorem run_loadFrom {w : World} {b off : Nat} {l : List Value} {T : TypeId} {fz : Nat × Nat} (h : w.heap[b]? = some (.cells l.toArray T fz)) : ∀ (n i : Nat) (acc : Array Value),
    off + i + n ≤ l.length → (loadCellsFrom ⟨b, off, none⟩ i n acc).run P w = .ok (acc ++ ((l.drop (off + i)).take n).toArray) w
  | 0, i, acc, _ => by simp [loadCellsFrom]
  | n + 1, i, acc, hle => by
    have hlt : off + i < l.length := by omega
    have hv : l[off + i]? = some l[off + i] := List.getElem?_eq_getElem hlt
    simp only [loadCellsFrom, add_addr, Sem.run_bind, run_load1 h hv, Result.andThen]
    rw [run_loadFrom h n (i + 1) _ (by omega)]
    congr 1
    rw [List.drop_eq_getElem_cons hlt, List.take_succ_cons]
    apply Array.ext'
    simp [Nat.add_assoc]
theorem run_loadCells {w : World} {b off n : Nat} {l : List Value} {T : TypeId} {fz : Nat × Nat} (h : w.heap[b]? = some (.cells l.toArray T fz)) (hle : off + n ≤ l.length) :
    (loadCells ⟨b, off, none⟩ n).run P w = .ok ((l.drop off).take n).toArray w := by
  unfold loadCells
  rw [run_loadFrom h n 0 #[] (by omega)]
  simp
theorem run_loadAt {α : Type} {t : TypeId} {c : Cd α} {z : α} {bytes : Nat} [ty : Ty P t c z bytes] {w : World} {b off : Nat} {l : List Value} {T : TypeId} {fz : Nat × Nat} {x : α}
    (h : w.heap[b]? = some (.cells l.toArray T fz)) (hx : (l.drop off).take c.n = c.cells x) : (Instr.loadAt t (.pointer (some ⟨b, off, none⟩))).run P w = .ok (c.val x) w := by
  obtain ⟨d, hd, ha⟩ := ty.und
  obtain ⟨i, hi, hs, _, _⟩ := ty.info
  have hlen := congrArg List.length hx
  rw [c.len, List.length_take, List.length_drop] at hlen
  have hle : c.n = 0 ∨ off + c.n ≤ l.length := by omega
  unfold Instr.loadAt Instr.sureAddr loadVar
  simp only [Sem.run_bind, Sem.run_pure, Result.andThen, run_agg hd, ha]
  cases hc : c.agg with
  | true =>
    simp only [if_true, Sem.run_bind, run_size hi, hs, Result.andThen]
    rcases hle with h0 | hle
    · rw [c.aggv hc, ← hx]
      simp [h0, loadCells, loadCellsFrom]
    · rw [run_loadCells h hle]
      simp only [Sem.run_pure, c.aggv hc, hx]
  | false =>
    have hn := c.sca_n hc x
    rw [c.sca hc, hn] at hx
    have hlt : off < l.length := by omega
    have hv : l[off]? = some (c.val x) := by
      rw [List.drop_eq_getElem_cons hlt, List.take_succ_cons] at hx
      rw [List.getElem?_eq_getElem hlt]
      injection hx with h1 _
      rw [h1]
    simp only [Bool.false_eq_true, if_false]
    exact run_load1 h hv
/-- 'l' with the cells 'vs' from 'off' on. -/
def wr (l : List Value) (off : Nat) (vs : List Value) : List Value := l.take off ++ vs ++ l.drop (off + vs.length)
theorem set_cells (w : World) (b off : Nat) (l : List Value) (T : TypeId) (v : Value) (h : w.heap[b]? = some (.cells l.toArray T)) :
    (w.setCell ⟨b, off, none⟩ v).heap[b]? = some (.cells (l.set off v).toArray T) ∧ ∀ i, i ≠ b → (w.setCell ⟨b, off, none⟩ v).heap[i]? = w.heap[i]? := by
  constructor
  · simp only [World.setCell]
    rw [Array.getElem?_modify]
    simp [h]
  · intro i hi
    simp only [World.setCell]
    rw [Array.getElem?_modify]
    simp [Ne.symm hi]
theorem run_store1 {w : World} {b off : Nat} {l : List Value} {T : TypeId} {v : Value} (h : w.heap[b]? = some (.cells l.toArray T)) (hl : off < l.length) (hv : oneC v = true) :
    (store ⟨b, off, none⟩ v).run P w = .ok () (w.setCell ⟨b, off, none⟩ v) := by
  have hc : w.cell? ⟨b, off, none⟩ = some l[off] := by simp [World.cell?, h, hl]
  have hf : w.frozen? ⟨b, off, none⟩ = false := by simp [World.frozen?, h]
  cases v <;> simp_all [store, Sem.run, oneC]
theorem run_storeCells {b off : Nat} {T : TypeId} : ∀ (vs : List Value) (i : Nat) (w : World) (l : List Value), w.heap[b]? = some (.cells l.toArray T) → off + i + vs.length ≤ l.length →
    (∀ v ∈ vs, oneC v = true) → ∃ w', (storeCells ⟨b, off, none⟩ vs i).run P w = .ok () w' ∧ w'.heap[b]? = some (.cells (wr l (off + i) vs).toArray T) ∧ (∀ k, k ≠ b → w'.heap[k]? = w.heap[k]?) ∧ Same w w'
  | [], i, w, l, h, _, _ => ⟨w, by simp [storeCells], by simp [wr, h], fun _ _ => rfl, rfl, rfl, rfl⟩
  | v :: vs, i, w, l, h, hle, h1 => by
    simp only [List.length_cons] at hle
    have hlt : off + i < l.length := by omega
    obtain ⟨g1, g2⟩ := set_cells w b (off + i) l T v h
    obtain ⟨w', r, g3, g4, g5⟩ := run_storeCells (off := off) vs (i + 1) (w.setCell ⟨b, off + i, none⟩ v) (l.set (off + i) v) g1 (by simp; omega) (fun x hx => h1 x (.tail _ hx))
    refine ⟨w', ?_, ?_, fun k hk => (g4 k hk).trans (g2 k hk), g5.os, g5.tape, g5.output⟩
    · simp only [storeCells, add_addr, Sem.run_bind, run_store1 h hlt (h1 v (.head _)), Result.andThen]
      exact r
    · rw [g3]
      congr 3
      unfold wr
      rw [← Nat.add_assoc off i 1, List.take_set, List.drop_set]
      have e1 : (List.take (off + i + 1) l).set (off + i) v = List.take (off + i) l ++ [v] := by
        rw [List.take_succ_eq_append_getElem hlt]
        rw [List.set_append, List.length_take, Nat.min_eq_left (Nat.le_of_lt hlt), if_neg (Nat.lt_irrefl _), Nat.sub_self]
        rfl
      rw [e1, if_pos (by omega)]
      simp only [List.append_assoc, List.cons_append, List.nil_append, List.length_cons]
      congr 4
      omega
theorem run_storeAt {α : Type} {t : TypeId} {c : Cd α} {z : α} {bytes : Nat} [ty : Ty P t c z bytes] {w : World} {b off : Nat} {l : List Value} {T : TypeId} {x : α}
    (h : w.heap[b]? = some (.cells l.toArray T)) (hle : off + c.n ≤ l.length) : ∃ w', (unitS (Instr.storeAt t (.pointer (some ⟨b, off, none⟩)) (c.val x))).run P w = .ok undef w' ∧
      w'.heap[b]? = some (.cells (wr l off (c.cells x)).toArray T) ∧ (∀ k, k ≠ b → w'.heap[k]? = w.heap[k]?) ∧ Same w w' := by
  obtain ⟨i, hi, hs, _, _⟩ := ty.info
  obtain ⟨w', r, g1, g2⟩ := run_storeCells (P := P) (b := b) (off := off) (T := T) (c.cells x) 0 w l h (by rw [c.len]; omega) (c.one x)
  refine ⟨w', ?_, g1, g2⟩
  have hsz : ¬ ((c.cells x).toArray.size ≠ i.size) := by rw [hs]; simp [c.len]
  unfold unitS Instr.storeAt Instr.sureAddr storeVar
  simp only [Sem.run_bind, Sem.run_pure, Result.andThen, run_size hi, c.vcells]
  rw [if_neg hsz, r]
theorem run_zero {α : Type} {t : TypeId} {c : Cd α} {z : α} {bytes : Nat} [ty : Ty P t c z bytes] (w : World) : (zeroValue t).run P w = .ok (c.val z) w := by
  obtain ⟨i, hi, _, _, hz⟩ := ty.info
  simp only [zeroValue, Sem.run_bind, run_info hi, Result.andThen, hz, Sem.run_pure]
theorem run_newVar {α : Type} (c : Cd α) (t : TypeId) (x : α) (w : World) :
    (newVar t (c.val x)).run P w = .ok ⟨w.heap.size, 0, none⟩ { w with heap := w.heap.push (.cells (c.cells x).toArray t) } := by
  simp only [newVar, newRow, newObj, Sem.run_bind, Sem.run, Result.andThen, c.vcells, Sem.run_pure]
theorem run_alloc {α : Type} {t : TypeId} {c : Cd α} {z : α} {bytes : Nat} [Ty P t c z bytes] (w : World) :
    (Instr.alloc t true (.tuple #[])).run P w = .ok (.pointer (some ⟨w.heap.size, 0, none⟩)) { w with heap := w.heap.push (.cells (c.cells z).toArray t) } := by
  simp only [Instr.alloc, Sem.run_bind, run_zero, Result.andThen, run_newVar, Sem.run_pure]
theorem run_box {α : Type} (c : Cd α) (t : TypeId) (x : α) (w : World) :
    (Instr.box t (c.val x)).run P w = .ok (.pointer (some ⟨w.heap.size, 0, none⟩)) { w with heap := w.heap.push (.cells (c.cells x).toArray t) } := by
  simp only [Instr.box, Sem.run_bind, run_newVar, Result.andThen, Sem.run_pure]
end Go.Dn
