/-
  Own framework, part K: variables and slices that are owned; what is handed in; loads, stores, new memory as steps.
  Conditions: none; general over any program.
-/
import Derived.Test.YtipjamgjgijeeaaDnJ
set_option linter.unusedSectionVars false
set_option synthInstance.maxSize 10000
set_option synthInstance.maxHeartbeats 400000
set_option maxHeartbeats 2000000
namespace Go.Dn
set_option linter.unusedSimpArgs false
set_option linter.unusedVariables false
variable {P : Program} [sd : Side]

/-- A variable. -/
def vr {α : Type} (b : Nat) (T : TypeId) (c : Cd α) (x : α) : HProp := pl b T (c.cells x)
/-- A slice that is owned with its whole block. -/
def sl {α : Type} (c : Cd α) (e : TypeId) (s : Sl) (xs : List α) : HProp := fun h =>
  (s = Sl.nil ∧ xs = [] ∧ ∀ i, h i = none) ∨ (∃ b cap junk, s = ⟨some ⟨b, 0, none⟩, xs.length, cap⟩ ∧ xs.length ≤ cap ∧ junk.length = (cap - xs.length) * c.n ∧ h = sng b (.cells (flat c xs ++ junk).toArray e))
/-- The place 'k' cells behind a slice's begin. -/
def ep (s : Sl) (k : Nat) : Value := match s.a with
  | some a => .pointer (some (a.add k))
  | none => undef

class PickV (b : Nat) (L : List HProp) (T : outParam TypeId) {α : outParam Type} (c : outParam (Cd α)) (x : outParam α) (L' : outParam (α → List HProp)) : Prop where
  out : ∃ M, (∀ h, sats L h → sats (vr b T c x :: M) h) ∧ ∀ x' h, sats (vr b T c x' :: M) h → sats (L' x') h
instance PickV.here {α : Type} {b : Nat} {T : TypeId} {c : Cd α} {x : α} {L : List HProp} : PickV b (vr b T c x :: L) T c x (fun y => vr b T c y :: L) :=
  ⟨L, fun _ h => h, fun _ _ h => h⟩
instance (priority := low) PickV.there {α : Type} {b : Nat} {T : TypeId} {c : Cd α} {x : α} {A : HProp} {L : List HProp} {L' : α → List HProp} [pk : PickV b L T c x L'] : PickV b (A :: L) T c x (fun y => A :: L' y) :=
  let ⟨M, h1, h2⟩ := pk.out
  ⟨A :: M, fun _ h => sats_swap (sats_tail h1 h), fun a' _ h => sats_tail (h2 a') (sats_swap h)⟩
class PickS (s : Sl) (L : List HProp) (e : outParam TypeId) {α : outParam Type} (c : outParam (Cd α)) (xs : outParam (List α)) (L' : outParam (List α → List HProp)) (M : outParam (List HProp)) : Prop where
  out : (∀ h, sats L h → sats (sl c e s xs :: M) h) ∧ ∀ x' h, sats (sl c e s x' :: M) h → sats (L' x') h
instance PickS.here {α : Type} {s : Sl} {e : TypeId} {c : Cd α} {xs : List α} {L : List HProp} : PickS s (sl c e s xs :: L) e c xs (fun y => sl c e s y :: L) L :=
  ⟨fun _ h => h, fun _ _ h => h⟩
instance (priority := low) PickS.there {α : Type} {s : Sl} {e : TypeId} {c : Cd α} {xs : List α} {A : HProp} {L : List HProp} {L' : List α → List HProp} {M : List HProp} [pk : PickS s L e c xs L' M] :
    PickS s (A :: L) e c xs (fun y => A :: L' y) (A :: M) :=
  ⟨fun _ h => sats_swap (sats_tail pk.out.1 h), fun a' _ h => sats_tail (pk.out.2 a') (sats_swap h)⟩

/-- A part of a datum, 'fo' cells behind its begin. -/
class SubC {α β : Type} (c : Cd α) (fo : Nat) (c' : Cd β) (get : outParam (α → β)) (set : outParam (α → β → α)) (C : outParam Prop) : Prop where
  le : C → fo + c'.n ≤ c.n
  get_eq : C → ∀ x, ((c.cells x).drop fo).take c'.n = c'.cells (get x)
  set_eq : C → ∀ x y, (c.cells x).take fo ++ c'.cells y ++ (c.cells x).drop (fo + c'.n) = c.cells (set x y)
instance (priority := high) SubC.self {α : Type} {c : Cd α} : SubC c 0 c (fun x => x) (fun _ y => y) True :=
  ⟨fun _ => by simp, fun _ x => by rw [List.drop_zero, List.take_of_length_le (by rw [c.len]; exact Nat.le_refl _)],
   fun _ x y => by rw [List.take_zero, List.nil_append, Nat.zero_add, List.drop_of_length_le (by rw [c.len]; exact Nat.le_refl _), List.append_nil]⟩
/-- The value of a datum of a codec, in its plain form. -/
class VIs {α : Type} (c : Cd α) (f : outParam (α → Value)) : Prop where
  out : c.val = f
instance VIs.int {k : IntKind} : VIs (cInt k) (fun x => .int k x) := ⟨rfl⟩
instance VIs.u8 : VIs cU8 (fun u => .int .u8 (u.toNat : Int)) := ⟨rfl⟩
instance VIs.bool : VIs cBool (fun x => .bool x) := ⟨rfl⟩
instance VIs.ptr : VIs cPtr (fun x => .pointer x) := ⟨rfl⟩
instance VIs.map : VIs cMap (fun x => .map x) := ⟨rfl⟩
instance VIs.sl : VIs cSl (fun x => sv x) := ⟨rfl⟩
instance (priority := low) VIs.any {α : Type} {c : Cd α} : VIs c (fun x => c.val x) := ⟨rfl⟩
class VOf {α : Type} (c : Cd α) (v : Value) (x : outParam α) : Prop where
  out : v = c.val x
instance VOf.int {k : IntKind} {x : Int} : VOf (cInt k) (.int k x) x := ⟨rfl⟩
instance (priority := high) VOf.u8 {u : UInt8} : VOf cU8 (.int .u8 (u.toNat : Int)) u := ⟨rfl⟩
instance VOf.bool {x : Bool} : VOf cBool (.bool x) x := ⟨rfl⟩
instance VOf.ptr {x : Option Addr} : VOf cPtr (.pointer x) x := ⟨rfl⟩
instance VOf.map {x : Option Nat} : VOf cMap (.map x) x := ⟨rfl⟩
instance VOf.sl {s : Sl} : VOf cSl (sv s) s := ⟨rfl⟩
instance VOf.slr {a : Option Addr} {l c : Nat} : VOf cSl (.slice a l c) ⟨a, l, c⟩ := ⟨rfl⟩
instance (priority := low) VOf.any {α : Type} {c : Cd α} {x : α} : VOf c (c.val x) x := ⟨rfl⟩

/-! ## Loads -/
class Ld (P : Program) (L : List HProp) (t : TypeId) (p : Value) (v : outParam Value) (C : outParam Prop) : Prop where
  out : C → ∀ w, Sat L w → (Instr.loadAt t p).run P w = .ok v w
instance Ld.var {L : List HProp} {t T : TypeId} {b off : Nat} {α β : Type} {c : Cd α} {c' : Cd β} {x : α} {z : β} {bytes : Nat} {L' : α → List HProp} {get : α → β} {set : α → β → α} {C : Prop} {f : β → Value}
    [ty : Ty P t c' z bytes] [pk : PickV b L T c x L'] [sb : SubC c off c' get set C] [vi : VIs c' f] : Ld P L t (.pointer (some ⟨b, off, none⟩)) (f (get x)) C :=
  ⟨fun hC w hw => by
    obtain ⟨M, h1, _⟩ := pk.out
    have hb := sng_get (A := vr b T c x) (fun _ h => h) (h1 _ hw.1)
    rw [← vi.out]
    exact run_loadAt hb (sb.get_eq hC x)⟩
instance {L : List HProp} {t : TypeId} {p v : Value} {C : Prop} {K : Value → W} [ld : Ld P L t p v C] : St L (rd P (Instr.loadAt t p) K) C (Ent L (K v)) :=
  ⟨fun hC h => ent_rd (ld.out hC) h⟩
instance {L : List HProp} {t : TypeId} {p v u : Value} {C : Prop} {A : W} [ld : Ld P L t p v C] : St L (andW (ck P none (Instr.loadAt t p) u) A) C (u = v ∧ Ent L A) :=
  ⟨fun hC h w hw => ⟨fun _ => h.1 ▸ ld.out hC w hw, h.2 w hw⟩⟩
instance {L : List HProp} {t : TypeId} {p v u : Value} {b b' : Bool} {C : Prop} {A : W} [ld : Ld P L t p v C] : St L (andW (ck P (some (.bool b, b')) (Instr.loadAt t p) u) A) (b = b' → C) ((b = b' → u = v) ∧ Ent L A) :=
  ⟨fun hC h w hw => ⟨fun e => by
    have e2 : b = b' := by injection e
    exact (h.1 e2) ▸ ld.out (hC e2) w hw, h.2 w hw⟩⟩
/-! ## Stores -/
class Sto (P : Program) (L : List HProp) (t : TypeId) (p v : Value) (L' : outParam (List HProp)) (C : outParam Prop) : Prop where
  out : C → ∀ w, Sat L w → ∃ w', (unitS (Instr.storeAt t p v)).run P w = .ok undef w' ∧ Sat L' w'
instance Sto.var {L : List HProp} {t T : TypeId} {b off : Nat} {α β : Type} {c : Cd α} {c' : Cd β} {x : α} {y z : β} {v : Value} {bytes : Nat} {L' : α → List HProp} {get : α → β} {set : α → β → α} {C : Prop}
    [ty : Ty P t c' z bytes] [pk : PickV b L T c x L'] [sb : SubC c off c' get set C] [vo : VOf c' v y] : Sto P L t (.pointer (some ⟨b, off, none⟩)) v (L' (set x y)) C :=
  ⟨fun hC w hw => by
    obtain ⟨M, h1, h2⟩ := pk.out
    have hb := sng_get (A := vr b T c x) (fun _ h => h) (h1 _ hw.1)
    obtain ⟨w', r, g1, g2, g3⟩ := run_storeAt (P := P) (t := t) (c := c') (x := y) hb (by rw [c.len]; exact sb.le hC)
    rw [vo.out]
    refine ⟨w', r, h2 _ _ ?_, sd.keep g3 hw.2⟩
    refine sats_set (h1 _ hw.1) (b := b) (o' := .cells (c.cells (set x y)).toArray T) ?_ g2
    rw [← sb.set_eq hC x y]
    have : wr (c.cells x) off (c'.cells y) = (c.cells x).take off ++ c'.cells y ++ (c.cells x).drop (off + c'.n) := by unfold wr; rw [c'.len]
    rw [← this]
    exact g1⟩
instance {L L' : List HProp} {t : TypeId} {p v : Value} {C : Prop} {K : Value → W} [so : Sto P L t p v L' C] : St L (ef P (unitS (Instr.storeAt t p v)) K) C (Ent L' (K undef)) :=
  ⟨fun hC h w hw => by
    obtain ⟨w', r, hs⟩ := so.out hC w hw
    exact ⟨_, w', r, h w' hs⟩⟩
/-! ## New memory -/
instance {L : List HProp} {t : TypeId} {α : Type} {c : Cd α} {z : α} {bytes : Nat} {K : Value → W} [Ty P t c z bytes] :
    St L (ef P (Instr.alloc t true (.tuple #[])) K) True (∀ b, Ent (vr b t c z :: L) (K (.pointer (some ⟨b, 0, none⟩)))) :=
  ⟨fun _ h w hw => ⟨_, _, run_alloc (z := z) w, h w.heap.size _ (sat_new hw _)⟩⟩
instance {L : List HProp} {t : TypeId} {α : Type} {c : Cd α} {x z : α} {v : Value} {bytes : Nat} {K : Value → W} [Ty P t c z bytes] [vo : VOf c v x] :
    St L (ef P (Instr.box t v) K) True (∀ b, Ent (vr b t c x :: L) (K (.pointer (some ⟨b, 0, none⟩)))) :=
  ⟨fun _ h w hw => ⟨_, _, by rw [vo.out]; exact run_box c t x w, h w.heap.size _ (sat_new hw _)⟩⟩
end Go.Dn
