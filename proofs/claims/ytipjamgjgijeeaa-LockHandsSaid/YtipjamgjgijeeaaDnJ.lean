/-
  Own framework, part J: the steps of a symbolic run: pure operations, loads, stores, new memory.
  Conditions: none; general over any program.
-/
import Derived.Test.YtipjamgjgijeeaaDnI
set_option linter.unusedSectionVars false
set_option synthInstance.maxSize 10000
set_option synthInstance.maxHeartbeats 400000
set_option maxHeartbeats 2000000
namespace Go.Dn
set_option linter.unusedSimpArgs false
set_option linter.unusedVariables false
variable {P : Program} [sd : Side]

/-- A step: under 'C', from 'Ψ'. -/
class St (L : List HProp) (φ : W) (C Ψ : outParam Prop) : Prop where
  out : C → Ψ → Ent L φ
theorem st {L : List HProp} {φ : W} {Ψ : Prop} [s : St L φ True Ψ] (h : Ψ) : Ent L φ := s.out trivial h
theorem sc {L : List HProp} {φ : W} {C Ψ : Prop} [s : St L φ C Ψ] (hc : C) (h : Ψ) : Ent L φ := s.out hc h
/-- A test. -/
class Cm (L : List HProp) (φ : W) (p Ψt Ψf : outParam Prop) : Prop where
  out : (p → Ψt) → (¬ p → Ψf) → Ent L φ
theorem ct {L : List HProp} {φ : W} {p Ψt Ψf : Prop} [s : Cm L φ p Ψt Ψf] (hp : p) (h : Ψt) : Ent L φ := s.out (fun _ => h) fun hn => absurd hp hn
theorem cf {L : List HProp} {φ : W} {p Ψt Ψf : Prop} [s : Cm L φ p Ψt Ψf] (hp : ¬ p) (h : Ψf) : Ent L φ := s.out (fun hy => absurd hy hp) fun _ => h
theorem cs {L : List HProp} {φ : W} {p Ψt Ψf : Prop} [s : Cm L φ p Ψt Ψf] (ht : p → Ψt) (hf : ¬ p → Ψf) : Ent L φ := s.out ht hf

/-! ## Small numbers -/
class NAdd (a b : Nat) (c : outParam Nat) : Prop where
  out : a + b = c
instance (priority := high) NAdd.r0 {a : Nat} : NAdd a 0 a := ⟨rfl⟩
instance (priority := high) NAdd.l0 {a : Nat} : NAdd 0 a a := ⟨Nat.zero_add a⟩
instance (priority := low) NAdd.any {a b : Nat} : NAdd a b (a + b) := ⟨rfl⟩
class NMul (a b : Nat) (c : outParam Nat) : Prop where
  out : a * b = c
instance (priority := high) NMul.r1 {a : Nat} : NMul a 1 a := ⟨Nat.mul_one a⟩
instance (priority := high) NMul.l0 {a : Nat} : NMul 0 a 0 := ⟨Nat.zero_mul a⟩
instance (priority := low) NMul.any {a b : Nat} : NMul a b (a * b) := ⟨rfl⟩
class ToN (i : Int) (n : outParam Nat) : Prop where
  out : i.toNat = n
instance (priority := high) ToN.lit {n : Nat} : ToN (@OfNat.ofNat Int n _) (OfNat.ofNat n) := ⟨rfl⟩
instance (priority := high) ToN.cast {n : Nat} : ToN (n : Int) n := ⟨Int.toNat_natCast n⟩
instance (priority := low) ToN.any {i : Int} : ToN i i.toNat := ⟨rfl⟩

/-! ## Pure steps -/
theorem ent_pu {L : List HProp} {s : Sem Value} {v : Value} {K : Value → W} (h : prun P s = some v) (hk : Ent L (K v)) : Ent L (pu P s K) := fun w hw => ⟨v, h, hk w hw⟩
theorem ent_rd {L : List HProp} {s : Sem Value} {v : Value} {K : Value → W} (h : ∀ w, Sat L w → s.run P w = .ok v w) (hk : Ent L (K v)) : Ent L (rd P s K) := fun w hw => ⟨v, h w hw, hk w hw⟩
theorem ent_rdp {L : List HProp} {s : Sem Value} {v : Value} {K : Value → W} (h : prun P s = some v) (hk : Ent L (K v)) : Ent L (rd P s K) := fun w hw => ⟨v, prun_run h w, hk w hw⟩

section
variable {L : List HProp} {K : Value → W}
instance St.nil {a : Addr} : St L (pu P (nilS (.pointer (some a))) K) True (Ent L (K (.pointer (some a)))) := ⟨fun _ h => ent_pu rfl h⟩
instance St.pickT {a b : Value} : St L (pu P (pickS (.bool true) a b) K) True (Ent L (K a)) := ⟨fun _ h => ent_pu rfl h⟩
instance St.pickF {a b : Value} : St L (pu P (pickS (.bool false) a b) K) True (Ent L (K b)) := ⟨fun _ h => ent_pu rfl h⟩
instance St.grdTT {f : (Value → W) → W} : St L (grd (.bool true) true f K) True (Ent L (f K)) := ⟨fun _ h => by simpa [grd, isB] using h⟩
instance St.grdFF {f : (Value → W) → W} : St L (grd (.bool false) false f K) True (Ent L (f K)) := ⟨fun _ h => by simpa [grd, isB] using h⟩
instance St.grdTF {f : (Value → W) → W} : St L (grd (.bool true) false f K) True (Ent L (K undef)) := ⟨fun _ h => by simpa [grd, isB] using h⟩
instance St.grdFT {f : (Value → W) → W} : St L (grd (.bool false) true f K) True (Ent L (K undef)) := ⟨fun _ h => by simpa [grd, isB] using h⟩
instance St.grdU {f : (Value → W) → W} {b : Bool} : St L (grd undef b f K) True (Ent L (K undef)) := ⟨fun _ h => by simpa [grd, isB, undef] using h⟩
instance St.brT {A B : W} : St L (br (.bool true) A B) True (Ent L A) := ⟨fun _ h => h⟩
instance St.brF {A B : W} : St L (br (.bool false) A B) True (Ent L B) := ⟨fun _ h => h⟩
instance Cm.br {b : Bool} {A B : W} : Cm L (br (.bool b) A B) (b = true) (Ent L A) (Ent L B) := ⟨fun h1 h2 => by cases b; exact h2 (by simp); exact h1 rfl⟩
instance St.notT : St L (pu P (Op.unary .not (.bool true)) K) True (Ent L (K (.bool false))) := ⟨fun _ h => ent_pu rfl h⟩
instance St.notF : St L (pu P (Op.unary .not (.bool false)) K) True (Ent L (K (.bool true))) := ⟨fun _ h => ent_pu rfl h⟩
instance (priority := low) Cm.not {b : Bool} : Cm L (pu P (Op.unary .not (.bool b)) K) (b = true) (Ent L (K (.bool false))) (Ent L (K (.bool true))) :=
  ⟨fun h1 h2 => by cases b; exact ent_pu rfl (h2 (by simp)); exact ent_pu rfl (h1 rfl)⟩
instance St.drw {A : W} : St L (drw A) True (Ent L A) := ⟨fun _ h w hw => h _ ⟨hw.1, sd.keep (w := w) ⟨rfl, rfl, rfl⟩ hw.2⟩⟩
instance St.both {A B : W} : St L (both A B) True (Ent L A ∧ Ent L B) := ⟨fun _ h w hw => ⟨h.1 w hw, h.2 w hw⟩⟩

theorem wrap_in {k : IntKind} {x : Int} (h1 : k.min ≤ x) (h2 : x ≤ k.max) : k.wrap x = x := by
  cases k <;> simp only [IntKind.min, IntKind.max, IntKind.wrap, IntKind.bits, IntKind.signed] at * <;> simp at * <;> (try split) <;> omega
theorem ent_cmp {s : Sem Value} {b : Bool} {p : Prop} (hb : b = true ↔ p) (h : prun P s = some (.bool b)) (h1 : p → Ent L (K (.bool true))) (h2 : ¬ p → Ent L (K (.bool false))) : Ent L (pu P s K) := by
  cases b with
  | true => exact ent_pu h (h1 (hb.1 rfl))
  | false => exact ent_pu h (h2 fun hp => by have := hb.2 hp; cases this)
theorem ent_cmpr {s : Sem Value} {b : Bool} {p : Prop} (hb : b = true ↔ p) (h : prun P s = some (.bool b)) (h1 : p → Ent L (K (.bool true))) (h2 : ¬ p → Ent L (K (.bool false))) : Ent L (rd P s K) := by
  cases b with
  | true => exact ent_rdp h (h1 (hb.1 rfl))
  | false => exact ent_rdp h (h2 fun hp => by have := hb.2 hp; cases this)
theorem prun_cmp {op : BinOp} {t : TypeId} {k : IntKind} {a b : Int} {v : Value} (h : prun P (Op.intCmp op a b) = some v) (h1 : op ≠ .add) (h2 : op ≠ .sub) (h3 : op ≠ .mul) (h4 : op ≠ .quo)
    (h5 : op ≠ .rem) (h6 : op ≠ .and) (h7 : op ≠ .or) (h8 : op ≠ .xor) (h9 : op ≠ .andNot) (h10 : op ≠ .shl) (h11 : op ≠ .shr) : prun P (binOp op t (.int k a) (.int k b)) = some v := by
  cases op <;> simp_all [binOp]
instance Cm.lss {t : TypeId} {k : IntKind} {a b : Int} : Cm L (pu P (binOp .lss t (.int k a) (.int k b)) K) (a < b) (Ent L (K (.bool true))) (Ent L (K (.bool false))) :=
  ⟨ent_cmp (b := decide (a < b)) (by simp) (prun_cmp rfl (by simp) (by simp) (by simp) (by simp) (by simp) (by simp) (by simp) (by simp) (by simp) (by simp) (by simp))⟩
instance Cm.leq {t : TypeId} {k : IntKind} {a b : Int} : Cm L (pu P (binOp .leq t (.int k a) (.int k b)) K) (a ≤ b) (Ent L (K (.bool true))) (Ent L (K (.bool false))) :=
  ⟨ent_cmp (b := decide (a ≤ b)) (by simp) (prun_cmp rfl (by simp) (by simp) (by simp) (by simp) (by simp) (by simp) (by simp) (by simp) (by simp) (by simp) (by simp))⟩
instance Cm.gtr {t : TypeId} {k : IntKind} {a b : Int} : Cm L (pu P (binOp .gtr t (.int k a) (.int k b)) K) (b < a) (Ent L (K (.bool true))) (Ent L (K (.bool false))) :=
  ⟨ent_cmp (b := decide (a > b)) (by simp) (prun_cmp rfl (by simp) (by simp) (by simp) (by simp) (by simp) (by simp) (by simp) (by simp) (by simp) (by simp) (by simp))⟩
instance Cm.geq {t : TypeId} {k : IntKind} {a b : Int} : Cm L (pu P (binOp .geq t (.int k a) (.int k b)) K) (b ≤ a) (Ent L (K (.bool true))) (Ent L (K (.bool false))) :=
  ⟨ent_cmp (b := decide (a ≥ b)) (by simp) (prun_cmp rfl (by simp) (by simp) (by simp) (by simp) (by simp) (by simp) (by simp) (by simp) (by simp) (by simp) (by simp))⟩
theorem prun_arith {op : BinOp} {t : TypeId} {k : IntKind} {a b r : Int} (h : prun P (Op.intArith op k a b) = some (.int k (k.wrap r))) (hop : op = .add ∨ op = .sub ∨ op = .mul) (h1 : k.min ≤ r) (h2 : r ≤ k.max) :
    prun P (binOp op t (.int k a) (.int k b)) = some (.int k r) := by
  rw [wrap_in h1 h2] at h
  rcases hop with rfl | rfl | rfl <;> simp_all [binOp]
instance St.addI {t : TypeId} {a b : Int} : St L (pu P (binOp .add t (.int .i64 a) (.int .i64 b)) K) (-9223372036854775808 ≤ a + b ∧ a + b ≤ 9223372036854775807) (Ent L (K (.int .i64 (a + b)))) :=
  ⟨fun c h => ent_pu (prun_arith rfl (by simp) c.1 c.2) h⟩
instance St.subI {t : TypeId} {a b : Int} : St L (pu P (binOp .sub t (.int .i64 a) (.int .i64 b)) K) (-9223372036854775808 ≤ a - b ∧ a - b ≤ 9223372036854775807) (Ent L (K (.int .i64 (a - b)))) :=
  ⟨fun c h => ent_pu (prun_arith rfl (by simp) c.1 c.2) h⟩
instance St.mulI {t : TypeId} {a b : Int} : St L (pu P (binOp .mul t (.int .i64 a) (.int .i64 b)) K) (-9223372036854775808 ≤ a * b ∧ a * b ≤ 9223372036854775807) (Ent L (K (.int .i64 (a * b)))) :=
  ⟨fun c h => ent_pu (prun_arith rfl (by simp) c.1 c.2) h⟩
instance St.addU {t : TypeId} {a b : Int} : St L (pu P (binOp .add t (.int .u64 a) (.int .u64 b)) K) (0 ≤ a + b ∧ a + b ≤ 18446744073709551615) (Ent L (K (.int .u64 (a + b)))) :=
  ⟨fun c h => ent_pu (prun_arith rfl (by simp) c.1 c.2) h⟩
instance St.subU {t : TypeId} {a b : Int} : St L (pu P (binOp .sub t (.int .u64 a) (.int .u64 b)) K) (0 ≤ a - b ∧ a - b ≤ 18446744073709551615) (Ent L (K (.int .u64 (a - b)))) :=
  ⟨fun c h => ent_pu (prun_arith rfl (by simp) c.1 c.2) h⟩
instance St.mulU {t : TypeId} {a b : Int} : St L (pu P (binOp .mul t (.int .u64 a) (.int .u64 b)) K) (0 ≤ a * b ∧ a * b ≤ 18446744073709551615) (Ent L (K (.int .u64 (a * b)))) :=
  ⟨fun c h => ent_pu (prun_arith rfl (by simp) c.1 c.2) h⟩
instance St.rem {t : TypeId} {k : IntKind} {a b : Int} : St L (pu P (binOp .rem t (.int k a) (.int k b)) K) (b ≠ 0) (Ent L (K (.int k (a.tmod b)))) :=
  ⟨fun c h => ent_pu (by simp only [binOp, ne_eq, not_true_eq_false, if_false, Op.intDiv, if_neg c]; rfl) h⟩
instance St.quoI {t : TypeId} {a b : Int} : St L (pu P (binOp .quo t (.int .i64 a) (.int .i64 b)) K) (b ≠ 0 ∧ -9223372036854775808 ≤ a.tdiv b ∧ a.tdiv b ≤ 9223372036854775807) (Ent L (K (.int .i64 (a.tdiv b)))) :=
  ⟨fun c h => ent_pu (by simp only [binOp, ne_eq, not_true_eq_false, if_false, Op.intDiv, if_neg c.1]; rw [wrap_in (k := .i64) c.2.1 c.2.2]; rfl) h⟩

/-! equality -/
theorem prun_eqI {t : TypeId} {cx cy : Bool} {k : IntKind} {a b : Int} : prun P (eqS .eql t cx cy (.int k a) (.int k b)) = some (.bool (a == b)) := by
  simp only [eqS, eqGuard, binOp, ne_eq, not_true_eq_false, if_false, Op.intCmp]; rfl
theorem prun_neI {t : TypeId} {cx cy : Bool} {k : IntKind} {a b : Int} : prun P (eqS .neq t cx cy (.int k a) (.int k b)) = some (.bool (a != b)) := by
  simp only [eqS, eqGuard, binOp, ne_eq, not_true_eq_false, if_false, Op.intCmp]; rfl
instance Cm.eqI {t : TypeId} {cx cy : Bool} {k : IntKind} {a b : Int} : Cm L (pu P (eqS .eql t cx cy (.int k a) (.int k b)) K) (a = b) (Ent L (K (.bool true))) (Ent L (K (.bool false))) := ⟨ent_cmp (by simp) prun_eqI⟩
instance Cm.eqIr {t : TypeId} {cx cy : Bool} {k : IntKind} {a b : Int} : Cm L (rd P (eqS .eql t cx cy (.int k a) (.int k b)) K) (a = b) (Ent L (K (.bool true))) (Ent L (K (.bool false))) := ⟨ent_cmpr (by simp) prun_eqI⟩
instance Cm.neI {t : TypeId} {cx cy : Bool} {k : IntKind} {a b : Int} : Cm L (pu P (eqS .neq t cx cy (.int k a) (.int k b)) K) (a = b) (Ent L (K (.bool false))) (Ent L (K (.bool true))) :=
  ⟨fun h1 h2 => ent_cmp (p := a ≠ b) (by simp) prun_neI h2 (fun h => h1 (Classical.byContradiction h))⟩
instance Cm.neIr {t : TypeId} {cx cy : Bool} {k : IntKind} {a b : Int} : Cm L (rd P (eqS .neq t cx cy (.int k a) (.int k b)) K) (a = b) (Ent L (K (.bool false))) (Ent L (K (.bool true))) :=
  ⟨fun h1 h2 => ent_cmpr (p := a ≠ b) (by simp) prun_neI h2 (fun h => h1 (Classical.byContradiction h))⟩
/-- A pointer's type. -/
class PtT (P : Program) (t : TypeId) : Prop where
  und : ∃ e, P.underlying t = some (.pointer e)
theorem prun_eqP {t : TypeId} [pt : PtT P t] {cx cy : Bool} {a : Option Addr} : prun P (eqS .eql t cx cy (.pointer a) (.pointer none)) = some (.bool a.isNone) ∧
    prun P (eqS .neq t cx cy (.pointer a) (.pointer none)) = some (.bool (!a.isNone)) := by
  obtain ⟨e, he⟩ := pt.und
  have key : prun P (Op.equal t (.pointer a) (.pointer none)) = some a.isNone := by
    unfold Op.equal Op.maxDepth Op.equalIn
    rw [prun_und he]
    cases a <;> rfl
  have bnd : ∀ (f : Bool → Value) (s : Sem Bool) (b : Bool), prun P s = some b → prun P (s >>= fun x => pure (f x)) = some (f b) := by
    intro f s b hs
    induction s with
    | pure x => simp only [prun, Option.some.injEq] at hs; subst hs; rfl
    | program k ih => exact ih P hs
    | _ => simp [prun] at hs
  constructor
  · simp only [eqS, eqGuard, binOp]
    exact bnd .bool _ _ key
  · simp only [eqS, eqGuard, binOp]
    exact bnd (fun b => .bool (!b)) _ _ key
instance St.eqPs {t : TypeId} [PtT P t] {cx cy : Bool} {a : Addr} : St L (pu P (eqS .eql t cx cy (.pointer (some a)) (.pointer none)) K) True (Ent L (K (.bool false))) := ⟨fun _ h => ent_pu prun_eqP.1 h⟩
instance St.eqPn {t : TypeId} [PtT P t] {cx cy : Bool} : St L (pu P (eqS .eql t cx cy (.pointer none) (.pointer none)) K) True (Ent L (K (.bool true))) := ⟨fun _ h => ent_pu prun_eqP.1 h⟩
instance St.nePs {t : TypeId} [PtT P t] {cx cy : Bool} {a : Addr} : St L (pu P (eqS .neq t cx cy (.pointer (some a)) (.pointer none)) K) True (Ent L (K (.bool true))) := ⟨fun _ h => ent_pu prun_eqP.2 h⟩
instance St.nePn {t : TypeId} [PtT P t] {cx cy : Bool} : St L (pu P (eqS .neq t cx cy (.pointer none) (.pointer none)) K) True (Ent L (K (.bool false))) := ⟨fun _ h => ent_pu prun_eqP.2 h⟩

/-! addresses, parts -/
instance St.ext20 {a b : Value} : St L (pu P (Instr.extract (.tuple #[a, b]) 0) K) True (Ent L (K a)) := ⟨fun _ h => ent_pu rfl h⟩
instance St.ext21 {a b : Value} : St L (pu P (Instr.extract (.tuple #[a, b]) 1) K) True (Ent L (K b)) := ⟨fun _ h => ent_pu rfl h⟩
instance St.ext30 {a b c : Value} : St L (pu P (Instr.extract (.tuple #[a, b, c]) 0) K) True (Ent L (K a)) := ⟨fun _ h => ent_pu rfl h⟩
instance St.ext31 {a b c : Value} : St L (pu P (Instr.extract (.tuple #[a, b, c]) 1) K) True (Ent L (K b)) := ⟨fun _ h => ent_pu rfl h⟩
instance St.ext32 {a b c : Value} : St L (pu P (Instr.extract (.tuple #[a, b, c]) 2) K) True (Ent L (K c)) := ⟨fun _ h => ent_pu rfl h⟩
theorem prun_field {t : TypeId} {k fo : Nat} [fl : FldT P t k fo] {b off : Nat} : prun P (Instr.fieldAt t (.pointer (some ⟨b, off, none⟩)) k) = some (.pointer (some ⟨b, off + fo, none⟩)) := by
  obtain ⟨fs, f, i, h1, h2, h3, h4, h5⟩ := fl.out
  unfold Instr.fieldAt
  rw [prun_und h1]
  simp only [h2, Instr.sureAddr, pure_bind, fieldPlace, bind_assoc]
  rw [prun_size h3]
  simp only [h4, if_false, pure_bind, add_addr, h5]
  rfl
instance St.field {t : TypeId} {k fo : Nat} [FldT P t k fo] {b off r : Nat} [na : NAdd off fo r] : St L (pu P (Instr.fieldAt t (.pointer (some ⟨b, off, none⟩)) k) K) True (Ent L (K (.pointer (some ⟨b, r, none⟩)))) :=
  ⟨fun _ h => ent_pu prun_field (na.out ▸ h)⟩
theorem prun_indexA {t e n : Nat} [ar : ArT P t n e] {ec : Nat} {i : TypeInfo} (hi : P.info? e = some i) (hs : i.size = ec) {b off : Nat} {k : IntKind} {x : Int} (h0 : 0 ≤ x) (h1 : x < n) :
    prun P (Instr.indexAt t (.pointer (some ⟨b, off, none⟩)) (.int k x)) = some (.pointer (some ⟨b, off + x.toNat * ec, none⟩)) := by
  unfold Instr.indexAt
  simp only [asIntOf, pure_bind]
  rw [prun_und ar.und]
  simp only [Instr.sureAddr, pure_bind]
  rw [prun_und ar.und]
  simp only [h0, h1, and_self, if_true, pure_bind]
  rw [prun_size hi, hs]
  simp only [add_addr]
  rfl
instance St.indexA {t e n : Nat} [ArT P t n e] {α : Type} {c : Cd α} {z : α} {bytes : Nat} [ty : Ty P e c z bytes] {b off : Nat} {k : IntKind} {x : Int} {xn m r : Nat} [tn : ToN x xn] [nm : NMul xn c.n m] [na : NAdd off m r] :
    St L (pu P (Instr.indexAt t (.pointer (some ⟨b, off, none⟩)) (.int k x)) K) (0 ≤ x ∧ x < n) (Ent L (K (.pointer (some ⟨b, r, none⟩)))) :=
  ⟨fun c h => by
    obtain ⟨i, hi, hs, _⟩ := ty.info
    refine ent_pu (prun_indexA hi hs c.1 c.2) ?_
    rw [tn.out, nm.out, na.out]; exact h⟩
end
end Go.Dn
