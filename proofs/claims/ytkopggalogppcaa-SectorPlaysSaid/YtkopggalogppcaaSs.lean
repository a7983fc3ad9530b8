/- Bytes: what the small functions do; sectors side by side. -/
import Derived.Test.YtkopggalogppcaaTy
import Derived.Test.YtkopggalogppcaaNf
namespace Go.Proofs.Ytkopggalogppcaa
set_option linter.unusedSimpArgs false
set_option linter.unusedVariables false
open Go.Dn
set_option linter.unusedSectionVars false
set_option synthInstance.maxSize 10000
set_option synthInstance.maxHeartbeats 400000
set_option maxHeartbeats 2000000
variable [sd : Side]
abbrev A64 := Arr 64 UInt8
abbrev cA : Cd A64 := cArr 64 cU8
abbrev zA : A64 := ⟨List.replicate 64 0, List.length_replicate⟩
/-! ## Sectors side by side -/
def fl (d : List A64) : List UInt8 := d.flatMap (·.l)
theorem fl_nil : fl [] = [] := rfl
theorem fl_cons {a : A64} {d : List A64} : fl (a :: d) = a.l ++ fl d := rfl
theorem fl_app {d e : List A64} : fl (d ++ e) = fl d ++ fl e := by simp [fl]
theorem fl_one {a : A64} : fl [a] = a.l := by simp [fl]
theorem fl_len {d : List A64} : (fl d).length = d.length * 64 := by
  induction d with
  | nil => rfl
  | cons a d ih => rw [fl_cons, List.length_append, a.len, ih, List.length_cons]; omega
theorem fl_take : ∀ {d : List A64} {i : Nat}, i ≤ d.length → (fl d).take (i * 64) = fl (d.take i)
  | d, i, h => by
    have e : fl d = fl (d.take i) ++ fl (d.drop i) := by rw [← fl_app, List.take_append_drop]
    have hl : (fl (d.take i)).length = i * 64 := by rw [fl_len, List.length_take, Nat.min_eq_left h]
    rw [e, ← hl, List.take_left]
theorem fl_drop : ∀ {d : List A64} {i : Nat}, i ≤ d.length → (fl d).drop (i * 64) = fl (d.drop i)
  | d, i, h => by
    have e : fl d = fl (d.take i) ++ fl (d.drop i) := by rw [← fl_app, List.take_append_drop]
    have hl : (fl (d.take i)).length = i * 64 := by rw [fl_len, List.length_take, Nat.min_eq_left h]
    rw [e, ← hl, List.drop_left]
theorem fl_seg {d : List A64} {i : Nat} (h : i < d.length) : ((fl d).drop (i * 64)).take 64 = (d.getD i default).l := by
  rw [fl_drop (by omega), drop_getD h, fl_cons, List.take_append_of_le_length (by rw [(d.getD i default).len]; exact Nat.le_refl _), List.take_of_length_le (by rw [(d.getD i default).len]; exact Nat.le_refl _)]
theorem fl_set {d : List A64} {i : Nat} {a : A64} (h : i < d.length) : fl (d.set i a) = (fl d).take (i * 64) ++ a.l ++ (fl d).drop (i * 64 + 64) := by
  rw [show i * 64 + 64 = (i + 1) * 64 from by omega, fl_take (by omega), fl_drop (by omega), List.set_eq_take_append_cons_drop, if_pos h, fl_app, fl_cons, List.append_assoc]
theorem fl_rep {n : Nat} : fl (List.replicate n zA) = List.replicate (n * 64) 0 := by
  induction n with
  | zero => rfl
  | succ n ih => rw [List.replicate_succ, fl_cons, ih, List.replicate_append_replicate]; congr 1; omega
theorem fl_inj : ∀ {d e : List A64}, d.length = e.length → fl d = fl e → d = e
  | [], [], _, _ => rfl
  | a :: d, b :: e, hl, h => by
    rw [fl_cons, fl_cons] at h
    obtain ⟨h1, h2⟩ := List.append_inj h (by rw [a.len, b.len])
    rw [Arr.ext h1, fl_inj (by simpa using hl) h2]
/-! ## Small functions -/
theorem own_ok {s : Sl} {l : List UInt8} {K : Value → W} {F : List HProp} [rs : Rs F s cU8 l] (hlen : l.length ≤ 140737488355328) (h : ∀ s', Ent (sl cU8 5 s' l :: F) (K (sv s'))) : Ent F (callC Try.prog 21 [sv s] K) := by
  refine ent_mono ?_ fun w => nf21_ok
  unfold nf21
  (repeat (first | refine st ?_ | refine And.intro rfl ?_ | refine sc (by omega) ?_ | refine sc (by simp only [List.length_map, List.length_append, List.length_cons, List.length_nil, List.length_set, List.length_replicate, List.length_singleton] at *; omega) ?_ | refine sc (And.intro (by omega) trivial) ?_ | refine sc (And.intro rfl (Nat.le_of_ble_eq_true rfl)) ?_ | refine sc (And.intro (by simp only [List.length_map, List.length_append, List.length_cons, List.length_nil, List.length_set, List.length_replicate, List.length_singleton] at *; omega) trivial) ?_ | refine sc (by decide) ?_ | refine sc (fun _ => trivial) ?_ | refine And.intro (fun _ => rfl) ?_ | refine sc (fun _ => And.intro (by omega) trivial) ?_))
  intro s1
  (repeat (first | refine st ?_ | refine And.intro rfl ?_ | refine sc (by omega) ?_ | refine sc (by simp only [List.length_map, List.length_append, List.length_cons, List.length_nil, List.length_set, List.length_replicate, List.length_singleton] at *; omega) ?_ | refine sc (And.intro (by omega) trivial) ?_ | refine sc (And.intro rfl (Nat.le_of_ble_eq_true rfl)) ?_ | refine sc (And.intro (by simp only [List.length_map, List.length_append, List.length_cons, List.length_nil, List.length_set, List.length_replicate, List.length_singleton] at *; omega) trivial) ?_ | refine sc (by decide) ?_ | refine sc (fun _ => trivial) ?_ | refine And.intro (fun _ => rfl) ?_ | refine sc (fun _ => And.intro (by omega) trivial) ?_))
  intro s2
  rw [List.nil_append]
  exact inc (h s2)
theorem clone_ok {s : Sl} {l : List UInt8} {K : Value → W} {F : List HProp} [rs : Rs F s cU8 l] (hlen : l.length ≤ 140737488355328) (h : ∀ s', Ent (sl cU8 5 s' l :: F) (K (sv s'))) : Ent F (callC Try.prog 32 [sv s] K) := by
  refine ent_mono ?_ fun w => nf32_ok
  unfold nf32
  refine cs (fun h1 => ?_) (fun h1 => ?_)
  · (repeat (first | refine st ?_ | refine And.intro rfl ?_ | refine sc (by omega) ?_ | refine sc (by simp only [List.length_map, List.length_append, List.length_cons, List.length_nil, List.length_set, List.length_replicate, List.length_singleton] at *; omega) ?_ | refine sc (And.intro (by omega) trivial) ?_ | refine sc (And.intro rfl (Nat.le_of_ble_eq_true rfl)) ?_ | refine sc (And.intro (by simp only [List.length_map, List.length_append, List.length_cons, List.length_nil, List.length_set, List.length_replicate, List.length_singleton] at *; omega) trivial) ?_ | refine sc (by decide) ?_ | refine sc (fun _ => trivial) ?_ | refine And.intro (fun _ => rfl) ?_ | refine sc (fun _ => And.intro (by omega) trivial) ?_))
    refine ent_rs (s := s) (c := cU8) (xs := l) fun hn _ => ?_
    have := hn h1
    subst this
    exact ent_nil cU8 5 (h Sl.nil)
  · (repeat (first | refine st ?_ | refine And.intro rfl ?_ | refine sc (by omega) ?_ | refine sc (by simp only [List.length_map, List.length_append, List.length_cons, List.length_nil, List.length_set, List.length_replicate, List.length_singleton] at *; omega) ?_ | refine sc (And.intro (by omega) trivial) ?_ | refine sc (And.intro rfl (Nat.le_of_ble_eq_true rfl)) ?_ | refine sc (And.intro (by simp only [List.length_map, List.length_append, List.length_cons, List.length_nil, List.length_set, List.length_replicate, List.length_singleton] at *; omega) trivial) ?_ | refine sc (by decide) ?_ | refine sc (fun _ => trivial) ?_ | refine And.intro (fun _ => rfl) ?_ | refine sc (fun _ => And.intro (by omega) trivial) ?_))
    intro s1
    (repeat (first | refine st ?_ | refine And.intro rfl ?_ | refine sc (by omega) ?_ | refine sc (by simp only [List.length_map, List.length_append, List.length_cons, List.length_nil, List.length_set, List.length_replicate, List.length_singleton] at *; omega) ?_ | refine sc (And.intro (by omega) trivial) ?_ | refine sc (And.intro rfl (Nat.le_of_ble_eq_true rfl)) ?_ | refine sc (And.intro (by simp only [List.length_map, List.length_append, List.length_cons, List.length_nil, List.length_set, List.length_replicate, List.length_singleton] at *; omega) trivial) ?_ | refine sc (by decide) ?_ | refine sc (fun _ => trivial) ?_ | refine And.intro (fun _ => rfl) ?_ | refine sc (fun _ => And.intro (by omega) trivial) ?_))
    intro s2
    rw [List.nil_append]
    exact inc (h s2)
theorem cloneD_ok {s : Sl} {l : List A64} {K : Value → W} {F : List HProp} [rs : Rs F s cA l] (hlen : l.length ≤ 100000) (h : ∀ s', Ent (sl cA 64 s' l :: F) (K (sv s'))) : Ent F (callC Try.prog 17 [sv s] K) := by
  refine ent_mono ?_ fun w => nf17_ok
  unfold nf17
  refine cs (fun h1 => ?_) (fun h1 => ?_)
  · (repeat (first | refine st ?_ | refine And.intro rfl ?_ | refine sc (by omega) ?_ | refine sc (by simp only [List.length_map, List.length_append, List.length_cons, List.length_nil, List.length_set, List.length_replicate, List.length_singleton] at *; omega) ?_ | refine sc (And.intro (by omega) trivial) ?_ | refine sc (And.intro rfl (Nat.le_of_ble_eq_true rfl)) ?_ | refine sc (And.intro (by simp only [List.length_map, List.length_append, List.length_cons, List.length_nil, List.length_set, List.length_replicate, List.length_singleton] at *; omega) trivial) ?_ | refine sc (by decide) ?_ | refine sc (fun _ => trivial) ?_ | refine And.intro (fun _ => rfl) ?_ | refine sc (fun _ => And.intro (by omega) trivial) ?_))
    refine ent_rs (s := s) (c := cA) (xs := l) fun hn _ => ?_
    have := hn h1
    subst this
    exact ent_nil cA 64 (h Sl.nil)
  · (repeat (first | refine st ?_ | refine And.intro rfl ?_ | refine sc (by omega) ?_ | refine sc (by simp only [List.length_map, List.length_append, List.length_cons, List.length_nil, List.length_set, List.length_replicate, List.length_singleton] at *; omega) ?_ | refine sc (And.intro (by omega) trivial) ?_ | refine sc (And.intro rfl (Nat.le_of_ble_eq_true rfl)) ?_ | refine sc (And.intro (by simp only [List.length_map, List.length_append, List.length_cons, List.length_nil, List.length_set, List.length_replicate, List.length_singleton] at *; omega) trivial) ?_ | refine sc (by decide) ?_ | refine sc (fun _ => trivial) ?_ | refine And.intro (fun _ => rfl) ?_ | refine sc (fun _ => And.intro (by omega) trivial) ?_))
    intro s1
    (repeat (first | refine st ?_ | refine And.intro rfl ?_ | refine sc (by omega) ?_ | refine sc (by simp only [List.length_map, List.length_append, List.length_cons, List.length_nil, List.length_set, List.length_replicate, List.length_singleton] at *; omega) ?_ | refine sc (And.intro (by omega) trivial) ?_ | refine sc (And.intro rfl (Nat.le_of_ble_eq_true rfl)) ?_ | refine sc (And.intro (by simp only [List.length_map, List.length_append, List.length_cons, List.length_nil, List.length_set, List.length_replicate, List.length_singleton] at *; omega) trivial) ?_ | refine sc (by decide) ?_ | refine sc (fun _ => trivial) ?_ | refine And.intro (fun _ => rfl) ?_ | refine sc (fun _ => And.intro (by omega) trivial) ?_))
    intro s2
    rw [List.nil_append]
    exact inc (h s2)
theorem cloneW_ok {s : Sl} {l : List S_sector_waiting} {K : Value → W} {F : List HProp} [rs : Rs F s S_sector_waiting.c l] (hlen : l.length ≤ 100000) (h : ∀ s', Ent (sl S_sector_waiting.c 67 s' l :: F) (K (sv s'))) : Ent F (callC Try.prog 18 [sv s] K) := by
  refine ent_mono ?_ fun w => nf18_ok
  unfold nf18
  refine cs (fun h1 => ?_) (fun h1 => ?_)
  · (repeat (first | refine st ?_ | refine And.intro rfl ?_ | refine sc (by omega) ?_ | refine sc (by simp only [List.length_map, List.length_append, List.length_cons, List.length_nil, List.length_set, List.length_replicate, List.length_singleton] at *; omega) ?_ | refine sc (And.intro (by omega) trivial) ?_ | refine sc (And.intro rfl (Nat.le_of_ble_eq_true rfl)) ?_ | refine sc (And.intro (by simp only [List.length_map, List.length_append, List.length_cons, List.length_nil, List.length_set, List.length_replicate, List.length_singleton] at *; omega) trivial) ?_ | refine sc (by decide) ?_ | refine sc (fun _ => trivial) ?_ | refine And.intro (fun _ => rfl) ?_ | refine sc (fun _ => And.intro (by omega) trivial) ?_))
    refine ent_rs (s := s) (c := S_sector_waiting.c) (xs := l) fun hn _ => ?_
    have := hn h1
    subst this
    exact ent_nil S_sector_waiting.c 67 (h Sl.nil)
  · (repeat (first | refine st ?_ | refine And.intro rfl ?_ | refine sc (by omega) ?_ | refine sc (by simp only [List.length_map, List.length_append, List.length_cons, List.length_nil, List.length_set, List.length_replicate, List.length_singleton] at *; omega) ?_ | refine sc (And.intro (by omega) trivial) ?_ | refine sc (And.intro rfl (Nat.le_of_ble_eq_true rfl)) ?_ | refine sc (And.intro (by simp only [List.length_map, List.length_append, List.length_cons, List.length_nil, List.length_set, List.length_replicate, List.length_singleton] at *; omega) trivial) ?_ | refine sc (by decide) ?_ | refine sc (fun _ => trivial) ?_ | refine And.intro (fun _ => rfl) ?_ | refine sc (fun _ => And.intro (by omega) trivial) ?_))
    intro s1
    (repeat (first | refine st ?_ | refine And.intro rfl ?_ | refine sc (by omega) ?_ | refine sc (by simp only [List.length_map, List.length_append, List.length_cons, List.length_nil, List.length_set, List.length_replicate, List.length_singleton] at *; omega) ?_ | refine sc (And.intro (by omega) trivial) ?_ | refine sc (And.intro rfl (Nat.le_of_ble_eq_true rfl)) ?_ | refine sc (And.intro (by simp only [List.length_map, List.length_append, List.length_cons, List.length_nil, List.length_set, List.length_replicate, List.length_singleton] at *; omega) trivial) ?_ | refine sc (by decide) ?_ | refine sc (fun _ => trivial) ?_ | refine And.intro (fun _ => rfl) ?_ | refine sc (fun _ => And.intro (by omega) trivial) ?_))
    intro s2
    rw [List.nil_append]
    exact inc (h s2)
theorem marked_ok {s : Sl} {l : List UInt8} {K : Value → W} {F : List HProp} [rs : Rs F s cU8 l] (hlen : l.length + 2 ≤ 140737488355328)
    (h : ∀ s1 s2, Cut cU8.n s1 s2 0 l.length → s1.len = l.length + 2 → Ent (sl cU8 5 s1 (l ++ [90, 90]) :: F) (K (sv s2))) : Ent F (callC Try.prog 22 [sv s] K) := by
  refine ent_mono ?_ fun w => nf22_ok
  unfold nf22
  refine own_ok (l := l) (by omega) fun s1 => ?_
  (repeat (first | refine st ?_ | refine And.intro rfl ?_ | refine sc (by omega) ?_ | refine sc (by simp only [List.length_map, List.length_append, List.length_cons, List.length_nil, List.length_set, List.length_replicate, List.length_singleton] at *; omega) ?_ | refine sc (And.intro (by omega) trivial) ?_ | refine sc (And.intro rfl (Nat.le_of_ble_eq_true rfl)) ?_ | refine sc (And.intro (by simp only [List.length_map, List.length_append, List.length_cons, List.length_nil, List.length_set, List.length_replicate, List.length_singleton] at *; omega) trivial) ?_ | refine sc (by decide) ?_ | refine sc (fun _ => trivial) ?_ | refine And.intro (fun _ => rfl) ?_ | refine sc (fun _ => And.intro (by omega) trivial) ?_))
  intro s2
  (repeat (first | refine st ?_ | refine And.intro rfl ?_ | refine sc (by omega) ?_ | refine sc (by simp only [List.length_map, List.length_append, List.length_cons, List.length_nil, List.length_set, List.length_replicate, List.length_singleton] at *; omega) ?_ | refine sc (And.intro (by omega) trivial) ?_ | refine sc (And.intro rfl (Nat.le_of_ble_eq_true rfl)) ?_ | refine sc (And.intro (by simp only [List.length_map, List.length_append, List.length_cons, List.length_nil, List.length_set, List.length_replicate, List.length_singleton] at *; omega) trivial) ?_ | refine sc (by decide) ?_ | refine sc (fun _ => trivial) ?_ | refine And.intro (fun _ => rfl) ?_ | refine sc (fun _ => And.intro (by omega) trivial) ?_))
  intro s3
  refine ent_slen fun c1 c2 => ?_
  simp only [List.length_append, List.length_cons, List.length_nil] at c1 c2
  (repeat (first | refine st ?_ | refine And.intro rfl ?_ | refine sc (by omega) ?_ | refine sc (by simp only [List.length_map, List.length_append, List.length_cons, List.length_nil, List.length_set, List.length_replicate, List.length_singleton] at *; omega) ?_ | refine sc (And.intro (by omega) trivial) ?_ | refine sc (And.intro rfl (Nat.le_of_ble_eq_true rfl)) ?_ | refine sc (And.intro (by simp only [List.length_map, List.length_append, List.length_cons, List.length_nil, List.length_set, List.length_replicate, List.length_singleton] at *; omega) trivial) ?_ | refine sc (by decide) ?_ | refine sc (fun _ => trivial) ?_ | refine And.intro (fun _ => rfl) ?_ | refine sc (fun _ => And.intro (by omega) trivial) ?_))
  intro s4 hc
  exact inc (h s3 s4 hc (by omega))
theorem held_ok {s s1 s2 : Sl} {l : List UInt8} {K : Value → W} {F : List HProp} [rs : Rs F s cU8 l] (hlen : l.length + 2 ≤ 140737488355328) (hc : Cut cU8.n s1 s2 0 l.length) (hs : s1.len = l.length + 2)
    (h : Ent (sl cU8 5 s1 (l ++ [90, 90]) :: F) (K (.bool true))) : Ent (sl cU8 5 s1 (l ++ [90, 90]) :: F) (callC Try.prog 24 [sv s2, sv s] K) := by
  refine ent_mono ?_ fun w => nf24_ok
  unfold nf24
  refine ent_slen fun c1 c2 => ?_
  simp only [List.length_append, List.length_cons, List.length_nil] at c1 c2
  have c3 := hc.cap
  (repeat (first | refine st ?_ | refine And.intro rfl ?_ | refine sc (by omega) ?_ | refine sc (by simp only [List.length_map, List.length_append, List.length_cons, List.length_nil, List.length_set, List.length_replicate, List.length_singleton] at *; omega) ?_ | refine sc (And.intro (by omega) trivial) ?_ | refine sc (And.intro rfl (Nat.le_of_ble_eq_true rfl)) ?_ | refine sc (And.intro (by simp only [List.length_map, List.length_append, List.length_cons, List.length_nil, List.length_set, List.length_replicate, List.length_singleton] at *; omega) trivial) ?_ | refine sc (by decide) ?_ | refine sc (fun _ => trivial) ?_ | refine And.intro (fun _ => rfl) ?_ | refine sc (fun _ => And.intro (by omega) trivial) ?_))
  intro s3 hc3
  have e3 : ((l.length : Int) + 2).toNat = l.length + 2 := by omega
  rw [e3] at hc3
  have c4 := hc3.cap
  (repeat (first | refine st ?_ | refine And.intro rfl ?_ | refine sc (by omega) ?_ | refine sc (by simp only [List.length_map, List.length_append, List.length_cons, List.length_nil, List.length_set, List.length_replicate, List.length_singleton] at *; omega) ?_ | refine sc (And.intro (by omega) trivial) ?_ | refine sc (And.intro rfl (Nat.le_of_ble_eq_true rfl)) ?_ | refine sc (And.intro (by simp only [List.length_map, List.length_append, List.length_cons, List.length_nil, List.length_set, List.length_replicate, List.length_singleton] at *; omega) trivial) ?_ | refine sc (by decide) ?_ | refine sc (fun _ => trivial) ?_ | refine And.intro (fun _ => rfl) ?_ | refine sc (fun _ => And.intro (by omega) trivial) ?_))
  intro s4 hc4
  have k3 : Cut cU8.n s1 s3 0 (l.length + 2) := hc.trans0 hc3
  haveI vw3 : VwOf s3 cU8 s1 0 (l.length + 2) := ⟨k3, by omega⟩
  haveI vw4 : VwOf s4 cU8 s1 0 l.length := ⟨k3.trans0 hc4, by omega⟩
  have e4 : ((l ++ [90, 90]).drop 0).take (l.length - 0) = l := view_all2
  have e5 : ((l ++ [90, 90]).drop 0).take (l.length + 2 - 0) = l ++ [90, 90] := by rw [List.drop_zero]; exact List.take_of_length_le (by simp)
  have e6 : (l ++ [(90 : UInt8), 90]).getD l.length default = 90 := by simp
  have e7 : (l ++ [(90 : UInt8), 90]).getD (l.length + 1) default = 90 := by rw [getD_app_r (by omega)]; simp
  (repeat (first | refine st ?_ | refine And.intro rfl ?_ | refine sc (by omega) ?_ | refine sc (by simp only [List.length_map, List.length_append, List.length_cons, List.length_nil, List.length_set, List.length_replicate, List.length_singleton] at *; omega) ?_ | refine sc (And.intro (by omega) trivial) ?_ | refine sc (And.intro rfl (Nat.le_of_ble_eq_true rfl)) ?_ | refine sc (And.intro (by simp only [List.length_map, List.length_append, List.length_cons, List.length_nil, List.length_set, List.length_replicate, List.length_singleton] at *; omega) trivial) ?_ | refine sc (by decide) ?_ | refine sc (fun _ => trivial) ?_ | refine And.intro (fun _ => rfl) ?_ | refine sc (fun _ => And.intro (by omega) trivial) ?_))
  refine ct e4 ?_
  (repeat (first | refine st ?_ | refine And.intro rfl ?_ | refine sc (by omega) ?_ | refine sc (by simp only [List.length_map, List.length_append, List.length_cons, List.length_nil, List.length_set, List.length_replicate, List.length_singleton] at *; omega) ?_ | refine sc (And.intro (by omega) trivial) ?_ | refine sc (And.intro rfl (Nat.le_of_ble_eq_true rfl)) ?_ | refine sc (And.intro (by simp only [List.length_map, List.length_append, List.length_cons, List.length_nil, List.length_set, List.length_replicate, List.length_singleton] at *; omega) trivial) ?_ | refine sc (by decide) ?_ | refine sc (fun _ => trivial) ?_ | refine And.intro (fun _ => rfl) ?_ | refine sc (fun _ => And.intro (by omega) trivial) ?_))
  refine sc (by rw [e5, List.length_append]; simp only [List.length_cons, List.length_nil]; omega) ?_
  (repeat (first | refine st ?_ | refine And.intro rfl ?_ | refine sc (by omega) ?_ | refine sc (by simp only [List.length_map, List.length_append, List.length_cons, List.length_nil, List.length_set, List.length_replicate, List.length_singleton] at *; omega) ?_ | refine sc (And.intro (by omega) trivial) ?_ | refine sc (And.intro rfl (Nat.le_of_ble_eq_true rfl)) ?_ | refine sc (And.intro (by simp only [List.length_map, List.length_append, List.length_cons, List.length_nil, List.length_set, List.length_replicate, List.length_singleton] at *; omega) trivial) ?_ | refine sc (by decide) ?_ | refine sc (fun _ => trivial) ?_ | refine And.intro (fun _ => rfl) ?_ | refine sc (fun _ => And.intro (by omega) trivial) ?_))
  refine sc ⟨by rw [e5, List.length_append]; simp only [List.length_cons, List.length_nil]; omega, trivial⟩ ?_
  rw [e5, e6]
  (repeat (first | refine st ?_ | refine And.intro rfl ?_ | refine sc (by omega) ?_ | refine sc (by simp only [List.length_map, List.length_append, List.length_cons, List.length_nil, List.length_set, List.length_replicate, List.length_singleton] at *; omega) ?_ | refine sc (And.intro (by omega) trivial) ?_ | refine sc (And.intro rfl (Nat.le_of_ble_eq_true rfl)) ?_ | refine sc (And.intro (by simp only [List.length_map, List.length_append, List.length_cons, List.length_nil, List.length_set, List.length_replicate, List.length_singleton] at *; omega) trivial) ?_ | refine sc (by decide) ?_ | refine sc (fun _ => trivial) ?_ | refine And.intro (fun _ => rfl) ?_ | refine sc (fun _ => And.intro (by omega) trivial) ?_))
  refine ct rfl ?_
  (repeat (first | refine st ?_ | refine And.intro rfl ?_ | refine sc (by omega) ?_ | refine sc (by simp only [List.length_map, List.length_append, List.length_cons, List.length_nil, List.length_set, List.length_replicate, List.length_singleton] at *; omega) ?_ | refine sc (And.intro (by omega) trivial) ?_ | refine sc (And.intro rfl (Nat.le_of_ble_eq_true rfl)) ?_ | refine sc (And.intro (by simp only [List.length_map, List.length_append, List.length_cons, List.length_nil, List.length_set, List.length_replicate, List.length_singleton] at *; omega) trivial) ?_ | refine sc (by decide) ?_ | refine sc (fun _ => trivial) ?_ | refine And.intro (fun _ => rfl) ?_ | refine sc (fun _ => And.intro (by omega) trivial) ?_))
  refine sc (by rw [e5, List.length_append]; simp only [List.length_cons, List.length_nil]; omega) ?_
  (repeat (first | refine st ?_ | refine And.intro rfl ?_ | refine sc (by omega) ?_ | refine sc (by simp only [List.length_map, List.length_append, List.length_cons, List.length_nil, List.length_set, List.length_replicate, List.length_singleton] at *; omega) ?_ | refine sc (And.intro (by omega) trivial) ?_ | refine sc (And.intro rfl (Nat.le_of_ble_eq_true rfl)) ?_ | refine sc (And.intro (by simp only [List.length_map, List.length_append, List.length_cons, List.length_nil, List.length_set, List.length_replicate, List.length_singleton] at *; omega) trivial) ?_ | refine sc (by decide) ?_ | refine sc (fun _ => trivial) ?_ | refine And.intro (fun _ => rfl) ?_ | refine sc (fun _ => And.intro (by omega) trivial) ?_))
  refine sc ⟨by rw [e5, List.length_append]; simp only [List.length_cons, List.length_nil]; omega, trivial⟩ ?_
  rw [e5, show ((l.length : Int) + 1).toNat = l.length + 1 from by omega, e7]
  (repeat (first | refine st ?_ | refine And.intro rfl ?_ | refine sc (by omega) ?_ | refine sc (by simp only [List.length_map, List.length_append, List.length_cons, List.length_nil, List.length_set, List.length_replicate, List.length_singleton] at *; omega) ?_ | refine sc (And.intro (by omega) trivial) ?_ | refine sc (And.intro rfl (Nat.le_of_ble_eq_true rfl)) ?_ | refine sc (And.intro (by simp only [List.length_map, List.length_append, List.length_cons, List.length_nil, List.length_set, List.length_replicate, List.length_singleton] at *; omega) trivial) ?_ | refine sc (by decide) ?_ | refine sc (fun _ => trivial) ?_ | refine And.intro (fun _ => rfl) ?_ | refine sc (fun _ => And.intro (by omega) trivial) ?_))
  refine ct rfl ?_
  (repeat (first | refine st ?_ | refine And.intro rfl ?_ | refine sc (by omega) ?_ | refine sc (by simp only [List.length_map, List.length_append, List.length_cons, List.length_nil, List.length_set, List.length_replicate, List.length_singleton] at *; omega) ?_ | refine sc (And.intro (by omega) trivial) ?_ | refine sc (And.intro rfl (Nat.le_of_ble_eq_true rfl)) ?_ | refine sc (And.intro (by simp only [List.length_map, List.length_append, List.length_cons, List.length_nil, List.length_set, List.length_replicate, List.length_singleton] at *; omega) trivial) ?_ | refine sc (by decide) ?_ | refine sc (fun _ => trivial) ?_ | refine And.intro (fun _ => rfl) ?_ | refine sc (fun _ => And.intro (by omega) trivial) ?_))
  exact h
end Go.Proofs.Ytkopggalogppcaa
