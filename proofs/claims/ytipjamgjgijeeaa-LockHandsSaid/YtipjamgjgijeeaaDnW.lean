/-
  Own framework, part W: bytes and texts; an array read as a slice, and a slice as an array.
  Conditions: none; general over any program.
-/
import Derived.Test.YtipjamgjgijeeaaDnV
import Derived.Laws.BytesString
set_option linter.unusedSectionVars false
set_option synthInstance.maxSize 10000
set_option synthInstance.maxHeartbeats 400000
set_option maxHeartbeats 2000000
namespace Go.Dn
set_option linter.unusedSimpArgs false
set_option linter.unusedVariables false
variable {P : Program} [sd : Side]
/-! ## Bytes -/
theorem u8_eq {a b : UInt8} : ((a.toNat : Int) = (b.toNat : Int)) ↔ a = b := by rw [Int.ofNat_inj, UInt8.toNat_inj]
theorem u8_lit {a : UInt8} {n : Nat} (h : n ≤ 255) : ((a.toNat : Int) = (@OfNat.ofNat Int n _)) ↔ a = UInt8.ofNat n := by
  rw [← UInt8.toNat_inj, UInt8.toNat_ofNat', Nat.mod_eq_of_lt (by omega)]
  exact Int.ofNat_inj
/-- The text of bytes. -/
def bs (l : List UInt8) : ByteArray := ⟨l.toArray⟩
theorem bs_push (l : List UInt8) (u : UInt8) : (bs l).push u = bs (l ++ [u]) := by simp [bs, ByteArray.push]
theorem bs_data (l : List UInt8) : (bs l).data.toList = l := by simp [bs]
theorem bs_app (l m : List UInt8) : bs l ++ bs m = bs (l ++ m) := by
  apply ByteArray.ext
  simp [bs, ByteArray.data_append]
theorem bs_size (l : List UInt8) : (bs l).size = l.length := by simp [bs, ByteArray.size]
theorem bs_loop (b : ByteArray) : ∀ (k i : Nat) (r : List UInt8), b.size - i = k → ByteArray.toList.loop b i r = r.reverse ++ b.data.toList.drop i := by
  intro k
  induction k with
  | zero =>
    intro i r h
    unfold ByteArray.toList.loop
    rw [if_neg (by omega), List.drop_of_length_le (by show b.data.size ≤ i; have : b.size = b.data.size := rfl; omega), List.append_nil]
  | succ k ih =>
    intro i r h
    unfold ByteArray.toList.loop
    have hi : i < b.size := by omega
    rw [if_pos hi, ih _ _ (by omega)]
    have h1 : i < b.data.toList.length := hi
    rw [List.drop_eq_getElem_cons h1, List.reverse_cons, List.append_assoc]
    have h2 : b.get! i = b.data.toList[i] := by
      have h3 : i < b.data.size := hi
      unfold ByteArray.get!
      show b.data[i]! = _
      rw [getElem!_pos b.data i h3]
      rfl
    rw [h2]
    rfl
theorem bs_toList (l : List UInt8) : (bs l).toList = l := by
  unfold ByteArray.toList
  rw [bs_loop _ _ 0 [] rfl]
  simp [bs]
class StgT (P : Program) (t : TypeId) : Prop where
  und : P.underlying t = some .string
theorem bs_foldl : ∀ (l m : List UInt8), (l.map fun u => (u.toNat : Int)).foldl (fun (r : ByteArray) n => r.push (UInt8.ofNat n.toNat)) (bs m) = bs (m ++ l)
  | [], m => by simp
  | u :: l, m => by
    rw [List.map_cons, List.foldl_cons, Int.toNat_natCast, UInt8.ofNat_toNat, bs_push, bs_foldl l]
    simp
theorem flat_u8 (l : List UInt8) : flat cU8 l = (l.map fun u => (u.toNat : Int)).map (Value.int .u8) := by
  induction l with
  | nil => rfl
  | cons u l ih =>
    show [Value.int .u8 (u.toNat : Int)] ++ flat cU8 l = _
    rw [ih]; rfl
section
variable {L : List HProp} {K : Value → W}
theorem run_text {s d e : TypeId} [st : SlT P s e] [it : InT P e .u8] [dt : StgT P d] {sl : Sl} {xs : List UInt8} {w : World} (hr : RdOk (hof w) sl cU8 xs) : (convert s d (sv sl)).run P w = .ok (.string (bs xs)) w := by
  show (convert s d (.slice sl.a sl.len sl.cap)).run P w = _
  rw [run_convert_bytes_string w s d e sl.a sl.len sl.cap st.und it.und dt.und]
  obtain ⟨h1, h2⟩ := hr
  rcases sl with ⟨a, len, cap⟩
  simp only at h1 h2
  cases a with
  | none =>
    have : xs = [] := Classical.byContradiction fun hne => by
      obtain ⟨b, off, l, T, fz, h3, _⟩ := h2 hne
      cases h3
    subst this
    rfl
  | some a =>
    have hl : (loadCells a len).run P w = .ok ((xs.map fun u => (u.toNat : Int)).map (Value.int .u8)).toArray w := by
      by_cases hne : xs = []
      · subst hne
        have h0 : len = 0 := by simpa using h1
        subst h0
        rfl
      · obtain ⟨b, off, l, T, fz, ha, hb, hf⟩ := h2 hne
        cases ha
        have hc : xs.length * cU8.n = xs.length := by show xs.length * 1 = _; omega
        have hlen : off + len ≤ l.length := by
          have := congrArg List.length hf
          rw [List.length_take, List.length_drop, flat_len, hc] at this
          have h4 : xs.length ≠ 0 := fun h => hne (List.eq_nil_of_length_eq_zero h)
          have h5 := Nat.min_le_right xs.length (l.length - off)
          rw [this] at h5
          omega
        rw [run_loadCells hb hlen]
        rw [hc, ← h1] at hf
        rw [hf, flat_u8]
    rw [run_bytesToString w a len cap _ hl]
    have := bs_foldl xs []
    rw [show bs [] = ByteArray.empty from rfl] at this
    rw [this]
    rfl
instance St.text {s d e : TypeId} [SlT P s e] [InT P e .u8] [StgT P d] {sl : Sl} {xs : List UInt8} [rs : Rs L sl cU8 xs] : St L (rd P (convert s d (sv sl)) K) True (Ent L (K (.string (bs xs)))) :=
  ⟨fun _ h => ent_rd (fun _ hw => run_text (rs.out _ hw.1)) h⟩
instance St.textck {s d e : TypeId} [SlT P s e] [InT P e .u8] [StgT P d] {sl : Sl} {xs : List UInt8} {u : Value} {A : W} [rs : Rs L sl cU8 xs] : St L (andW (ck P none (convert s d (sv sl)) u) A) True (u = .string (bs xs) ∧ Ent L A) :=
  ⟨fun _ h w hw => ⟨fun _ => h.1 ▸ run_text (rs.out _ hw.1), h.2 w hw⟩⟩
instance St.textckg {s d e : TypeId} [SlT P s e] [InT P e .u8] [StgT P d] {sl : Sl} {xs : List UInt8} {u : Value} {b b' : Bool} {A : W} [rs : Rs L sl cU8 xs] : St L (andW (ck P (some (.bool b, b')) (convert s d (sv sl)) u) A) True ((b = b' → u = .string (bs xs)) ∧ Ent L A) :=
  ⟨fun _ h w hw => ⟨fun e => by
    have e2 : b = b' := by injection e
    exact (h.1 e2) ▸ run_text (rs.out _ hw.1), h.2 w hw⟩⟩
theorem prun_eqT {t : TypeId} {cx cy : Bool} {a b : List UInt8} : prun P (eqS .eql t cx cy (.string (bs a)) (.string (bs b))) = some (.bool (a == b)) ∧ prun P (eqS .neq t cx cy (.string (bs a)) (.string (bs b))) = some (.bool (!(a == b))) := by
  constructor
  · simp only [eqS, eqGuard, binOp, Op.stringOp, bs_toList]; rfl
  · simp only [eqS, eqGuard, binOp, Op.stringOp, bs_toList]; rfl
instance Cm.eqTx {t : TypeId} {cx cy : Bool} {a b : List UInt8} : Cm L (rd P (eqS .eql t cx cy (.string (bs a)) (.string (bs b))) K) (a = b) (Ent L (K (.bool true))) (Ent L (K (.bool false))) := ⟨ent_cmpr (by simp) prun_eqT.1⟩
instance Cm.neTx {t : TypeId} {cx cy : Bool} {a b : List UInt8} : Cm L (rd P (eqS .neq t cx cy (.string (bs a)) (.string (bs b))) K) (a = b) (Ent L (K (.bool false))) (Ent L (K (.bool true))) :=
  ⟨fun h1 h2 => ent_cmpr (p := a ≠ b) (by simp) prun_eqT.2 h2 (fun h => h1 (Classical.byContradiction h))⟩
instance St.addTx {t : TypeId} {a b : List UInt8} : St L (pu P (binOp .add t (.string (bs a)) (.string (bs b))) K) (a.length + b.length ≤ 9223372036854775807) (Ent L (K (.string (bs (a ++ b))))) :=
  ⟨fun c h => ent_pu (by
    simp only [binOp, Op.stringOp, bs_size]
    rw [if_neg (by show ¬ ((a.length + b.length : Nat) : Int) > 9223372036854775807; omega), bs_app]
    rfl) h⟩
instance St.negI {a : Int} : St L (pu P (Op.unary .neg (.int .i64 a)) K) (-9223372036854775807 ≤ a ∧ a ≤ 9223372036854775807) (Ent L (K (.int .i64 (-a)))) :=
  ⟨fun c h => ent_pu (by
    show prun P (pure (Value.int .i64 (IntKind.i64.wrap (0 - a)))) = _
    rw [wrap_in (k := .i64) (by show -9223372036854775808 ≤ _; omega) (by show _ ≤ 9223372036854775807; omega), Int.zero_sub]
    rfl) h⟩
end
/-! ## What lies in one of many pieces is read -/
theorem bg_at_sats {α : Type} {f : α → HProp} {l : List α} {F : List HProp} [Inhabited α] {i : Nat} (hi : i < l.length) {hp : Hp} (hs : sats (bg f l :: F) hp) : sats (f (l.getD i default) :: bg f (l.eraseIdx i) :: F) hp := by
  have h1 := bg_sats.1 hs
  have e : l.getD i default = l[i] := by simp [hi]
  have hperm : (l.map f ++ F).Perm (f (l.getD i default) :: ((l.eraseIdx i).map f ++ F)) := by
    rw [e]
    exact ((perm_at l i hi).map f).append_right F
  exact sats_tail (fun _ h => bg_sats.2 h) (sats_perm hperm _ h1)
theorem rs_bg {α β : Type} [Inhabited α] {f : α → HProp} {l : List α} {i : Nat} (hi : i < l.length) {s : Sl} {c : Cd β} {xs : List β} (hf : ∀ M, Rs (f (l.getD i default) :: M) s c xs) (M : List HProp) : Rs (bg f l :: M) s c xs :=
  ⟨fun h hs => (hf _).out h (bg_at_sats hi hs)⟩
/-! ## An array as a slice -/
/-- A slice of all of an array that lies in a variable. -/
class AvOf (s : Sl) (b off n : outParam Nat) {α : outParam Type} (c : outParam (Cd α)) : Prop where
  out : s = ⟨some ⟨b, off, none⟩, n, n⟩
/-- A slice of all of an array that lies in a slice's element. -/
class AvE (s' : Sl) (s : outParam Sl) (j m n : outParam Nat) {α : outParam Type} (c : outParam (Cd α)) : Prop where
  out : s' = ⟨s.a.map (·.add m), n, n⟩
  lt : j < s.len
theorem prun_sliceA {t e n : Nat} [ar : ArT P t n e] {α : Type} {c : Cd α} {z : α} {bytes : Nat} [ty : Ty P e c z bytes] {a : Addr} : prun P (Instr.sliceAt t (.pointer (some a)) none none none) = some (.slice (some a) n n) := by
  obtain ⟨i, hi, _, _⟩ := ty.info
  unfold Instr.sliceAt
  rw [prun_und ar.und]
  simp only [Instr.sureAddr, Instr.sliceBounds, pure_bind]
  rw [prun_size hi]
  simp only [Nat.zero_mul]
  have : (if n = 0 then a else a.add 0) = a := by split <;> rfl
  rw [this]
  rfl
section
variable {L : List HProp} {K : Value → W}
instance St.sliceA {t e n : Nat} [ArT P t n e] {α : Type} {c : Cd α} {z : α} {bytes : Nat} [Ty P e c z bytes] {b off : Nat} :
    St L (pu P (Instr.sliceAt t (.pointer (some ⟨b, off, none⟩)) none none none) K) True (∀ s, AvOf s b off n c → Ent L (K (sv s))) :=
  ⟨fun _ h => ent_pu prun_sliceA (h ⟨some ⟨b, off, none⟩, n, n⟩ ⟨rfl⟩)⟩
instance St.sliceE {t e n : Nat} [ArT P t n e] {α β : Type} {c : Cd α} {z : α} {bytes : Nat} [Ty P e c z bytes] {s : Sl} {c' : Cd β} {xs : List β} [rs : Rs L s c' xs] {m j fo : Nat} [ps : Pos m c'.n j fo] :
    St L (pu P (Instr.sliceAt t (ep s m) none none none) K) (j < xs.length) (∀ s', AvE s' s j m n c → Ent L (K (sv s'))) :=
  ⟨fun hC h => ent_sat fun w hw => by
    obtain ⟨h1, h2⟩ := rs.out _ hw.1
    have hne : xs ≠ [] := by intro hx; subst hx; simp at hC
    obtain ⟨b, off, l, T, fz, ha, _, _⟩ := h2 hne
    have e1 : ep s m = .pointer (some ((⟨b, off, none⟩ : Addr).add m)) := by simp [ep, ha]
    rw [e1]
    refine ent_pu prun_sliceA ?_
    have := h ⟨s.a.map (·.add m), n, n⟩ ⟨rfl, by rw [h1]; exact hC⟩
    rw [ha] at this
    exact this⟩
theorem rdOk_arr {α β : Type} {h : Hp} {b off n : Nat} {c : Cd β} {x : β} {T : TypeId} {fz : Nat × Nat} {ca : Cd α} {get : β → Arr n α} {set : β → Arr n α → β} (hb : h b = some (.cells (c.cells x).toArray T fz)) (sb : SubC c off (cArr n ca) get set True) :
    RdOk h ⟨some ⟨b, off, none⟩, n, n⟩ ca (get x).l := by
  refine ⟨(get x).len.symm, fun _ => ⟨b, off, c.cells x, T, fz, rfl, hb, ?_⟩⟩
  rw [(get x).len]
  exact sb.get_eq trivial x
instance Rs.av {α β : Type} {s : Sl} {b off n : Nat} {ca : Cd α} [av : AvOf s b off n ca] {T : TypeId} {c : Cd β} {x : β} {L' : β → List HProp} [pk : PickV b L T c x L'] {get : β → Arr n α} {set : β → Arr n α → β} [sb : SubC c off (cArr n ca) get set True] :
    Rs L s ca (get x).l := ⟨fun h hs => by
  obtain ⟨M, h1, _⟩ := pk.out
  have hb := sng_get (A := vr b T c x) (fun _ h => h) (h1 _ hs)
  rw [av.out]
  exact rdOk_arr hb sb⟩
theorem rdOk_arrE {α β : Type} [Inhabited β] {h : Hp} {s : Sl} {n j m fo : Nat} {c : Cd β} {xs : List β} {ca : Cd α} {get : β → Arr n α} {set : β → Arr n α → β} (hr : RdOk h s c xs) (hj : j < s.len) (hm : m = j * c.n + fo) (sb : SubC c fo (cArr n ca) get set True) :
    RdOk h ⟨s.a.map (·.add m), n, n⟩ ca (get (xs.getD j default)).l := by
  refine ⟨(get _).len.symm, fun _ => ?_⟩
  rw [hr.1] at hj
  have hne : xs ≠ [] := by intro hx; subst hx; simp at hj
  obtain ⟨b, off, l, T, fz, ha, hb, hf⟩ := hr.2 hne
  refine ⟨b, off + m, l, T, fz, by simp [ha, add_addr], hb, ?_⟩
  rw [(get _).len]
  have hp := flat_part sb trivial hj
  have hle := sb.le trivial
  rw [← hf, List.drop_take, List.take_take, List.drop_drop] at hp
  have : j * c.n + c.n ≤ xs.length * c.n := by
    rw [show j * c.n + c.n = (j + 1) * c.n from by rw [Nat.add_mul, Nat.one_mul]]
    exact Nat.mul_le_mul_right _ hj
  rw [Nat.min_eq_left (by omega), ← hm] at hp
  exact hp
instance Rs.avE {α β : Type} [Inhabited β] {s' s : Sl} {j m n fo : Nat} {ca : Cd α} [av : AvE s' s j m n ca] {c : Cd β} {xs : List β} [rs : Rs L s c xs] [ps : Pos m c.n j fo] {get : β → Arr n α} {set : β → Arr n α → β} [sb : SubC c fo (cArr n ca) get set True] :
    Rs L s' ca (get (xs.getD j default)).l := ⟨fun h hs => by
  rw [av.out]
  exact rdOk_arrE (rs.out _ hs) av.lt ps.out sb⟩
/-! ## A slice as an array -/
def arrOf (n : Nat) {α : Type} [Inhabited α] (xs : List α) : Arr n α := ⟨xs.take n ++ List.replicate (n - xs.length) default, by
  rw [List.length_append, List.length_take, List.length_replicate]; omega⟩
theorem arrOf_l {n : Nat} {α : Type} [Inhabited α] {xs : List α} (h : xs.length = n) : (arrOf n xs).l = xs := by
  simp [arrOf, ← h]
theorem arrOf_take {n : Nat} {α : Type} [Inhabited α] {xs : List α} (h : n ≤ xs.length) : (arrOf n xs).l = xs.take n := by
  simp [arrOf, Nat.sub_eq_zero_of_le h]
theorem Arr.ext {n : Nat} {α : Type} {a b : Arr n α} (h : a.l = b.l) : a = b := by cases a; cases b; cases h; rfl
instance St.arrayAt {t e n : Nat} [ar : ArT P t n e] {α : Type} {c : Cd α} {s : Sl} {xs : List α} [rs : Rs L s c xs] : St L (pu P (Instr.arrayAt t (sv s)) K) (0 < n ∧ n ≤ xs.length) (Ent L (K (ep s 0))) :=
  ⟨fun hC h => ent_sat fun w hw => by
    obtain ⟨h1, h2⟩ := rs.out _ hw.1
    have hne : xs ≠ [] := by intro hx; subst hx; simp at hC; omega
    obtain ⟨b, off, l, T, fz, ha, _, _⟩ := h2 hne
    refine ent_pu (v := ep s 0) ?_ h
    unfold Instr.arrayAt
    rw [prun_und ar.und]
    simp only [sv, pure_bind]
    rw [if_neg (by omega)]
    have : ep s 0 = .pointer s.a := by
      unfold ep
      rw [ha]
      rfl
    rw [this]
    rfl⟩
theorem flat_takeN {α : Type} {c : Cd α} : ∀ {xs : List α} {n : Nat}, n ≤ xs.length → (flat c xs).take (n * c.n) = flat c (xs.take n)
  | xs, n, h => by
    have : flat c xs = flat c (xs.take n) ++ flat c (xs.drop n) := by rw [← flat_append, List.take_append_drop]
    rw [this]
    have hl : (flat c (xs.take n)).length = n * c.n := by rw [flat_len, List.length_take, Nat.min_eq_left h]
    rw [← hl, List.take_left]
instance (priority := low) Ld.arr {t e n : Nat} {α : Type} [Inhabited α] {c : Cd α} {z : Arr n α} {bytes : Nat} [ar : ArT P t n e] [ty : Ty P t (cArr n c) z bytes] {s : Sl} {xs : List α} [rs : Rs L s c xs] : Ld P L t (ep s 0) ((cArr n c).val (arrOf n xs)) (0 < n ∧ n ≤ xs.length) :=
  ⟨fun hC w hw => by
    obtain ⟨h1, h2⟩ := rs.out _ hw.1
    have hne : xs ≠ [] := by intro hx; subst hx; simp at hC; omega
    obtain ⟨b, off, l, T, fz, ha, hb, hf⟩ := h2 hne
    have e1 : ep s 0 = .pointer (some ⟨b, off, none⟩) := by simp [ep, ha, add_addr]
    rw [e1]
    refine run_loadAt hb ?_
    have h3 : flat c (xs.take n) = (l.drop off).take (n * c.n) := by
      rw [← flat_takeN hC.2, ← hf, List.take_take, Nat.min_eq_left (Nat.mul_le_mul_right _ hC.2)]
    show (l.drop off).take (n * c.n) = flat c (arrOf n xs).l
    rw [arrOf_take hC.2, h3]⟩
end
end Go.Dn
