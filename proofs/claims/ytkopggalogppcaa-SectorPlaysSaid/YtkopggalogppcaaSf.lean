/- Crashes, flushes, copies, loading. -/
import Derived.Test.YtkopggalogppcaaSe
namespace Go.Proofs.Ytkopggalogppcaa
set_option linter.unusedSimpArgs false
set_option linter.unusedVariables false
open Go.Dn
set_option linter.unusedSectionVars false
set_option synthInstance.maxSize 10000
set_option synthInstance.maxHeartbeats 400000
set_option maxHeartbeats 2000000
variable [sd : Side]
section
variable {p : Nat} {m : DM} {K : Value → W} {F : List HProp}
theorem cr_no {q : Nat → Bool} {i : Nat} (h : q i = false) : cr m q (i + 1) = cr m q i := by show (if _ then _ else _) = _; rw [if_neg (by rw [h]; simp)]
theorem cr_yes {q : Nat → Bool} {i : Nat} (h : q i = true) : cr m q (i + 1) = (cr m q i).set (m.ws.getD i default).sector.toNat (m.ws.getD i default).bytes := if_pos h
theorem crash3_ok {s w fs : Sl} {fl' : List UInt8} {q : Nat → Bool} (hm : DOk m) (hl : fl'.length = m.ws.length) (hq : ∀ i, i < m.ws.length → (fl'.getD i default = 1 ↔ q i = true))
    (h : Ent (diskAt p (crM m q) :: F) (K (.tuple #[.int .i64 m.ws.length, .int .i64 0]))) :
    Ent (vr p 61 S_sector_Disk.c ⟨s, w⟩ :: sl cA 64 s m.dur :: sl S_sector_waiting.c 67 w m.ws :: sl cU8 5 fs fl' :: F) (nf16_3 K (.pointer (pt p)) (sv w) (.int .i64 m.ws.length) (sv fs)) := by
  unfold nf16_3
  have h1 := hm.most
  refine ent_loop (γ := Nat) (fun i => [.int .i64 i]) (fun i => vr p 61 S_sector_Disk.c ⟨s, w⟩ :: sl cA 64 s (cr m q i) :: sl S_sector_waiting.c 67 w m.ws :: sl cU8 5 fs fl' :: F) (fun i => i ≤ m.ws.length) (fun i => m.ws.length - i) 0 rfl (by omega) ⟨fun _ hs => hs⟩ ?_
  intro i hi K1 j hK
  simp only [List.headD_cons] at *
  refine cs (fun h3 => ?_) (fun h3 => ?_)
  · have hiw : i < m.ws.length := by omega
    have hin := hm.in_ _ (getD_mem hiw)
    (repeat (first | refine st ?_ | refine And.intro rfl ?_ | refine sc (by omega) ?_ | refine sc (by simp only [List.length_map, List.length_append, List.length_cons, List.length_nil, List.length_set, List.length_replicate, List.length_singleton] at *; omega) ?_ | refine sc (And.intro (by omega) trivial) ?_ | refine sc (And.intro rfl (Nat.le_of_ble_eq_true rfl)) ?_ | refine sc (And.intro (by simp only [List.length_map, List.length_append, List.length_cons, List.length_nil, List.length_set, List.length_replicate, List.length_singleton] at *; omega) trivial) ?_ | refine sc (by decide) ?_ | refine sc (fun _ => trivial) ?_ | refine And.intro (fun _ => rfl) ?_ | refine sc (fun _ => And.intro (by omega) trivial) ?_))
    intro b
    (repeat (first | refine st ?_ | refine And.intro rfl ?_ | refine sc (by omega) ?_ | refine sc (by simp only [List.length_map, List.length_append, List.length_cons, List.length_nil, List.length_set, List.length_replicate, List.length_singleton] at *; omega) ?_ | refine sc (And.intro (by omega) trivial) ?_ | refine sc (And.intro rfl (Nat.le_of_ble_eq_true rfl)) ?_ | refine sc (And.intro (by simp only [List.length_map, List.length_append, List.length_cons, List.length_nil, List.length_set, List.length_replicate, List.length_singleton] at *; omega) trivial) ?_ | refine sc (by decide) ?_ | refine sc (fun _ => trivial) ?_ | refine And.intro (fun _ => rfl) ?_ | refine sc (fun _ => And.intro (by omega) trivial) ?_))
    unfold nf16_2
    refine cs (fun h4 => ?_) (fun h4 => ?_)
    · have h5 := (hq i hiw).1 ((u8_lit (n := 1) (by decide)).1 h4)
      (repeat (first | refine st ?_ | refine And.intro rfl ?_ | refine sc (by omega) ?_ | refine sc (by simp only [List.length_map, List.length_append, List.length_cons, List.length_nil, List.length_set, List.length_replicate, List.length_singleton] at *; omega) ?_ | refine sc (And.intro (by omega) trivial) ?_ | refine sc (And.intro rfl (Nat.le_of_ble_eq_true rfl)) ?_ | refine sc (And.intro (by simp only [List.length_map, List.length_append, List.length_cons, List.length_nil, List.length_set, List.length_replicate, List.length_singleton] at *; omega) trivial) ?_ | refine sc (by decide) ?_ | refine sc (fun _ => trivial) ?_ | refine And.intro (fun _ => rfl) ?_ | refine sc (fun _ => And.intro (by omega) trivial) ?_))
      refine sc ⟨hin.1, by rw [cr_len]; exact hin.2⟩ ?_
      (repeat (first | refine st ?_ | refine And.intro rfl ?_ | refine sc (by omega) ?_ | refine sc (by simp only [List.length_map, List.length_append, List.length_cons, List.length_nil, List.length_set, List.length_replicate, List.length_singleton] at *; omega) ?_ | refine sc (And.intro (by omega) trivial) ?_ | refine sc (And.intro rfl (Nat.le_of_ble_eq_true rfl)) ?_ | refine sc (And.intro (by simp only [List.length_map, List.length_append, List.length_cons, List.length_nil, List.length_set, List.length_replicate, List.length_singleton] at *; omega) trivial) ?_ | refine sc (by decide) ?_ | refine sc (fun _ => trivial) ?_ | refine And.intro (fun _ => rfl) ?_ | refine sc (fun _ => And.intro (by omega) trivial) ?_))
      refine sc ⟨by rw [cr_len]; omega, trivial⟩ ?_
      (repeat (first | refine st ?_ | refine And.intro rfl ?_ | refine sc (by omega) ?_ | refine sc (by simp only [List.length_map, List.length_append, List.length_cons, List.length_nil, List.length_set, List.length_replicate, List.length_singleton] at *; omega) ?_ | refine sc (And.intro (by omega) trivial) ?_ | refine sc (And.intro rfl (Nat.le_of_ble_eq_true rfl)) ?_ | refine sc (And.intro (by simp only [List.length_map, List.length_append, List.length_cons, List.length_nil, List.length_set, List.length_replicate, List.length_singleton] at *; omega) trivial) ?_ | refine sc (by decide) ?_ | refine sc (fun _ => trivial) ?_ | refine And.intro (fun _ => rfl) ?_ | refine sc (fun _ => And.intro (by omega) trivial) ?_))
      rw [← cr_yes h5]
      exact inc (hK (i + 1) (by omega) (by omega))
    · have h5 : q i = false := by
        cases hc : q i with
        | false => rfl
        | true => exact absurd ((u8_lit (a := fl'.getD i default) (n := 1) (by decide)).2 ((hq i hiw).2 hc)) h4
      (repeat (first | refine st ?_ | refine And.intro rfl ?_ | refine sc (by omega) ?_ | refine sc (by simp only [List.length_map, List.length_append, List.length_cons, List.length_nil, List.length_set, List.length_replicate, List.length_singleton] at *; omega) ?_ | refine sc (And.intro (by omega) trivial) ?_ | refine sc (And.intro rfl (Nat.le_of_ble_eq_true rfl)) ?_ | refine sc (And.intro (by simp only [List.length_map, List.length_append, List.length_cons, List.length_nil, List.length_set, List.length_replicate, List.length_singleton] at *; omega) trivial) ?_ | refine sc (by decide) ?_ | refine sc (fun _ => trivial) ?_ | refine And.intro (fun _ => rfl) ?_ | refine sc (fun _ => And.intro (by omega) trivial) ?_))
      rw [← cr_no h5]
      exact inc (hK (i + 1) (by omega) (by omega))
  · have : i = m.ws.length := by omega
    subst this
    (repeat (first | refine st ?_ | refine And.intro rfl ?_ | refine sc (by omega) ?_ | refine sc (by simp only [List.length_map, List.length_append, List.length_cons, List.length_nil, List.length_set, List.length_replicate, List.length_singleton] at *; omega) ?_ | refine sc (And.intro (by omega) trivial) ?_ | refine sc (And.intro rfl (Nat.le_of_ble_eq_true rfl)) ?_ | refine sc (And.intro (by simp only [List.length_map, List.length_append, List.length_cons, List.length_nil, List.length_set, List.length_replicate, List.length_singleton] at *; omega) trivial) ?_ | refine sc (by decide) ?_ | refine sc (fun _ => trivial) ?_ | refine And.intro (fun _ => rfl) ?_ | refine sc (fun _ => And.intro (by omega) trivial) ?_))
    refine ent_nil S_sector_waiting.c 67 ?_
    exact inc (M := vr p 61 S_sector_Disk.c ⟨s, Sl.nil⟩ :: sl cA 64 s (cr m q m.ws.length) :: sl S_sector_waiting.c 67 Sl.nil [] :: F) (disk_shut (m := crM m q) h)
theorem crash_ok {s : Sl} {ks : List Int} [rs : Rs F s (cInt .i64) ks] (hm : DOk m) (hk : ks.length ≤ 9223372036854775806) (h : Ent (diskAt p (crM m (qOf ks)) :: F) (K (.tuple #[.int .i64 m.ws.length, .int .i64 0]))) :
    Ent (diskAt p m :: F) (callC Try.prog 16 [.pointer (pt p), sv s] K) := by
  refine ent_mono ?_ fun w => nf16_ok
  unfold nf16
  have h1 := hm.most
  refine disk_open fun s1 w => ?_
  (repeat (first | refine st ?_ | refine And.intro rfl ?_ | refine sc (by omega) ?_ | refine sc (by simp only [List.length_map, List.length_append, List.length_cons, List.length_nil, List.length_set, List.length_replicate, List.length_singleton] at *; omega) ?_ | refine sc (And.intro (by omega) trivial) ?_ | refine sc (And.intro rfl (Nat.le_of_ble_eq_true rfl)) ?_ | refine sc (And.intro (by simp only [List.length_map, List.length_append, List.length_cons, List.length_nil, List.length_set, List.length_replicate, List.length_singleton] at *; omega) trivial) ?_ | refine sc (by decide) ?_ | refine sc (fun _ => trivial) ?_ | refine And.intro (fun _ => rfl) ?_ | refine sc (fun _ => And.intro (by omega) trivial) ?_))
  intro fs
  (repeat (first | refine st ?_ | refine And.intro rfl ?_ | refine sc (by omega) ?_ | refine sc (by simp only [List.length_map, List.length_append, List.length_cons, List.length_nil, List.length_set, List.length_replicate, List.length_singleton] at *; omega) ?_ | refine sc (And.intro (by omega) trivial) ?_ | refine sc (And.intro rfl (Nat.le_of_ble_eq_true rfl)) ?_ | refine sc (And.intro (by simp only [List.length_map, List.length_append, List.length_cons, List.length_nil, List.length_set, List.length_replicate, List.length_singleton] at *; omega) trivial) ?_ | refine sc (by decide) ?_ | refine sc (fun _ => trivial) ?_ | refine And.intro (fun _ => rfl) ?_ | refine sc (fun _ => And.intro (by omega) trivial) ?_))
  rw [Int.toNat_natCast]
  refine ent_loop (γ := Nat × List UInt8) (fun t => [.int .i64 t.1]) (fun t => sl cU8 5 fs t.2 :: vr p 61 S_sector_Disk.c ⟨s1, w⟩ :: sl cA 64 s1 m.dur :: sl S_sector_waiting.c 67 w m.ws :: F)
    (fun t => t.1 ≤ ks.length ∧ t.2.length = m.ws.length ∧ ∀ i, i < m.ws.length → (t.2.getD i default = 1 ↔ (i : Int) ∈ ks.take t.1)) (fun t => ks.length - t.1) (0, List.replicate m.ws.length 0) rfl
    ⟨by simp, by simp, fun i hi => by rw [getD_rep hi]; simp⟩ inferInstance ?_
  intro ⟨k, fl'⟩ ⟨hi, hfl, hf⟩ K1 j hK
  simp only [List.headD_cons] at *
  refine cs (fun h3 => ?_) (fun h3 => ?_)
  · have hkk : k < ks.length := by omega
    (repeat (first | refine st ?_ | refine And.intro rfl ?_ | refine sc (by omega) ?_ | refine sc (by simp only [List.length_map, List.length_append, List.length_cons, List.length_nil, List.length_set, List.length_replicate, List.length_singleton] at *; omega) ?_ | refine sc (And.intro (by omega) trivial) ?_ | refine sc (And.intro rfl (Nat.le_of_ble_eq_true rfl)) ?_ | refine sc (And.intro (by simp only [List.length_map, List.length_append, List.length_cons, List.length_nil, List.length_set, List.length_replicate, List.length_singleton] at *; omega) trivial) ?_ | refine sc (by decide) ?_ | refine sc (fun _ => trivial) ?_ | refine And.intro (fun _ => rfl) ?_ | refine sc (fun _ => And.intro (by omega) trivial) ?_))
    unfold nf16_1
    have step : ∀ fl2 : List UInt8, fl2.length = m.ws.length → (∀ i, i < m.ws.length → (fl2.getD i default = 1 ↔ (fl'.getD i default = 1 ∨ (i : Int) = ks.getD k default))) →
        Ent (sl cU8 5 fs fl2 :: vr p 61 S_sector_Disk.c ⟨s1, w⟩ :: sl cA 64 s1 m.dur :: sl S_sector_waiting.c 67 w m.ws :: F) (K1 [.int .i64 (k + 1 : Nat)]) := by
      intro fl2 hl2 h2
      refine hK (k + 1, fl2) ⟨by show k + 1 ≤ _; omega, hl2, fun i hi => ?_⟩ (by show _ - (k + 1) < _; omega)
      rw [h2 i hi, hf i hi, take_one hkk, List.mem_append, List.mem_singleton]
    refine cs (fun h4 => ?_) (fun h4 => ?_)
    · (repeat (first | refine st ?_ | refine And.intro rfl ?_ | refine sc (by omega) ?_ | refine sc (by simp only [List.length_map, List.length_append, List.length_cons, List.length_nil, List.length_set, List.length_replicate, List.length_singleton] at *; omega) ?_ | refine sc (And.intro (by omega) trivial) ?_ | refine sc (And.intro rfl (Nat.le_of_ble_eq_true rfl)) ?_ | refine sc (And.intro (by simp only [List.length_map, List.length_append, List.length_cons, List.length_nil, List.length_set, List.length_replicate, List.length_singleton] at *; omega) trivial) ?_ | refine sc (by decide) ?_ | refine sc (fun _ => trivial) ?_ | refine And.intro (fun _ => rfl) ?_ | refine sc (fun _ => And.intro (by omega) trivial) ?_))
      refine cs (fun h5 => ?_) (fun h5 => ?_)
      · (repeat (first | refine st ?_ | refine And.intro rfl ?_ | refine sc (by omega) ?_ | refine sc (by simp only [List.length_map, List.length_append, List.length_cons, List.length_nil, List.length_set, List.length_replicate, List.length_singleton] at *; omega) ?_ | refine sc (And.intro (by omega) trivial) ?_ | refine sc (And.intro rfl (Nat.le_of_ble_eq_true rfl)) ?_ | refine sc (And.intro (by simp only [List.length_map, List.length_append, List.length_cons, List.length_nil, List.length_set, List.length_replicate, List.length_singleton] at *; omega) trivial) ?_ | refine sc (by decide) ?_ | refine sc (fun _ => trivial) ?_ | refine And.intro (fun _ => rfl) ?_ | refine sc (fun _ => And.intro (by omega) trivial) ?_))
        refine step (fl'.set (ks.getD k default).toNat 1) (by rw [List.length_set]; exact hfl) fun i hi => ?_
        by_cases hik : (i : Int) = ks.getD k default
        · rw [show (ks.getD k default).toNat = i from by omega, Go.Dn.getD_set_eq (by omega)]
          simp [hik]
        · rw [Go.Dn.getD_set_ne (by omega)]
          exact ⟨.inl, fun h => h.elim id fun h => absurd h hik⟩
      · (repeat (first | refine st ?_ | refine And.intro rfl ?_ | refine sc (by omega) ?_ | refine sc (by simp only [List.length_map, List.length_append, List.length_cons, List.length_nil, List.length_set, List.length_replicate, List.length_singleton] at *; omega) ?_ | refine sc (And.intro (by omega) trivial) ?_ | refine sc (And.intro rfl (Nat.le_of_ble_eq_true rfl)) ?_ | refine sc (And.intro (by simp only [List.length_map, List.length_append, List.length_cons, List.length_nil, List.length_set, List.length_replicate, List.length_singleton] at *; omega) trivial) ?_ | refine sc (by decide) ?_ | refine sc (fun _ => trivial) ?_ | refine And.intro (fun _ => rfl) ?_ | refine sc (fun _ => And.intro (by omega) trivial) ?_))
        refine step fl' hfl fun i hi => ?_
        have : (i : Int) ≠ ks.getD k default := by omega
        exact ⟨.inl, fun h => h.elim id fun h => absurd h this⟩
    · (repeat (first | refine st ?_ | refine And.intro rfl ?_ | refine sc (by omega) ?_ | refine sc (by simp only [List.length_map, List.length_append, List.length_cons, List.length_nil, List.length_set, List.length_replicate, List.length_singleton] at *; omega) ?_ | refine sc (And.intro (by omega) trivial) ?_ | refine sc (And.intro rfl (Nat.le_of_ble_eq_true rfl)) ?_ | refine sc (And.intro (by simp only [List.length_map, List.length_append, List.length_cons, List.length_nil, List.length_set, List.length_replicate, List.length_singleton] at *; omega) trivial) ?_ | refine sc (by decide) ?_ | refine sc (fun _ => trivial) ?_ | refine And.intro (fun _ => rfl) ?_ | refine sc (fun _ => And.intro (by omega) trivial) ?_))
      refine step fl' hfl fun i hi => ?_
      have : (i : Int) ≠ ks.getD k default := by omega
      exact ⟨.inl, fun h => h.elim id fun h => absurd h this⟩
  · have : k = ks.length := by omega
    subst this
    rw [List.take_length] at hf
    (repeat (first | refine st ?_ | refine And.intro rfl ?_ | refine sc (by omega) ?_ | refine sc (by simp only [List.length_map, List.length_append, List.length_cons, List.length_nil, List.length_set, List.length_replicate, List.length_singleton] at *; omega) ?_ | refine sc (And.intro (by omega) trivial) ?_ | refine sc (And.intro rfl (Nat.le_of_ble_eq_true rfl)) ?_ | refine sc (And.intro (by simp only [List.length_map, List.length_append, List.length_cons, List.length_nil, List.length_set, List.length_replicate, List.length_singleton] at *; omega) trivial) ?_ | refine sc (by decide) ?_ | refine sc (fun _ => trivial) ?_ | refine And.intro (fun _ => rfl) ?_ | refine sc (fun _ => And.intro (by omega) trivial) ?_))
    refine inc (crash3_ok (q := qOf ks) (s := s1) hm hfl (fun i hi => by rw [hf i hi]; simp [qOf]) h)
theorem flush_ok (hm : DOk m) (h : Ent (diskAt p (crM m (fun _ => true)) :: F) (K (.tuple #[.int .i64 m.ws.length, .int .i64 0]))) : Ent (diskAt p m :: F) (callC Try.prog 25 [.pointer (pt p)] K) := by
  refine ent_mono ?_ fun w => nf25_ok
  unfold nf25
  have h1 := hm.most
  refine disk_open fun s w => ?_
  (repeat (first | refine st ?_ | refine And.intro rfl ?_ | refine sc (by omega) ?_ | refine sc (by simp only [List.length_map, List.length_append, List.length_cons, List.length_nil, List.length_set, List.length_replicate, List.length_singleton] at *; omega) ?_ | refine sc (And.intro (by omega) trivial) ?_ | refine sc (And.intro rfl (Nat.le_of_ble_eq_true rfl)) ?_ | refine sc (And.intro (by simp only [List.length_map, List.length_append, List.length_cons, List.length_nil, List.length_set, List.length_replicate, List.length_singleton] at *; omega) trivial) ?_ | refine sc (by decide) ?_ | refine sc (fun _ => trivial) ?_ | refine And.intro (fun _ => rfl) ?_ | refine sc (fun _ => And.intro (by omega) trivial) ?_))
  refine ent_loop (γ := Nat) (fun i => [.int .i64 i]) (fun i => vr p 61 S_sector_Disk.c ⟨s, w⟩ :: sl cA 64 s (cr m (fun _ => true) i) :: sl S_sector_waiting.c 67 w m.ws :: F) (fun i => i ≤ m.ws.length) (fun i => m.ws.length - i) 0 rfl (by omega) ⟨fun _ hs => hs⟩ ?_
  intro i hi K1 j hK
  simp only [List.headD_cons] at *
  refine cs (fun h3 => ?_) (fun h3 => ?_)
  · have hiw : i < m.ws.length := by omega
    have hin := hm.in_ _ (getD_mem hiw)
    (repeat (first | refine st ?_ | refine And.intro rfl ?_ | refine sc (by omega) ?_ | refine sc (by simp only [List.length_map, List.length_append, List.length_cons, List.length_nil, List.length_set, List.length_replicate, List.length_singleton] at *; omega) ?_ | refine sc (And.intro (by omega) trivial) ?_ | refine sc (And.intro rfl (Nat.le_of_ble_eq_true rfl)) ?_ | refine sc (And.intro (by simp only [List.length_map, List.length_append, List.length_cons, List.length_nil, List.length_set, List.length_replicate, List.length_singleton] at *; omega) trivial) ?_ | refine sc (by decide) ?_ | refine sc (fun _ => trivial) ?_ | refine And.intro (fun _ => rfl) ?_ | refine sc (fun _ => And.intro (by omega) trivial) ?_))
    intro b
    (repeat (first | refine st ?_ | refine And.intro rfl ?_ | refine sc (by omega) ?_ | refine sc (by simp only [List.length_map, List.length_append, List.length_cons, List.length_nil, List.length_set, List.length_replicate, List.length_singleton] at *; omega) ?_ | refine sc (And.intro (by omega) trivial) ?_ | refine sc (And.intro rfl (Nat.le_of_ble_eq_true rfl)) ?_ | refine sc (And.intro (by simp only [List.length_map, List.length_append, List.length_cons, List.length_nil, List.length_set, List.length_replicate, List.length_singleton] at *; omega) trivial) ?_ | refine sc (by decide) ?_ | refine sc (fun _ => trivial) ?_ | refine And.intro (fun _ => rfl) ?_ | refine sc (fun _ => And.intro (by omega) trivial) ?_))
    refine sc ⟨hin.1, by rw [cr_len]; exact hin.2⟩ ?_
    (repeat (first | refine st ?_ | refine And.intro rfl ?_ | refine sc (by omega) ?_ | refine sc (by simp only [List.length_map, List.length_append, List.length_cons, List.length_nil, List.length_set, List.length_replicate, List.length_singleton] at *; omega) ?_ | refine sc (And.intro (by omega) trivial) ?_ | refine sc (And.intro rfl (Nat.le_of_ble_eq_true rfl)) ?_ | refine sc (And.intro (by simp only [List.length_map, List.length_append, List.length_cons, List.length_nil, List.length_set, List.length_replicate, List.length_singleton] at *; omega) trivial) ?_ | refine sc (by decide) ?_ | refine sc (fun _ => trivial) ?_ | refine And.intro (fun _ => rfl) ?_ | refine sc (fun _ => And.intro (by omega) trivial) ?_))
    refine sc ⟨by rw [cr_len]; omega, trivial⟩ ?_
    (repeat (first | refine st ?_ | refine And.intro rfl ?_ | refine sc (by omega) ?_ | refine sc (by simp only [List.length_map, List.length_append, List.length_cons, List.length_nil, List.length_set, List.length_replicate, List.length_singleton] at *; omega) ?_ | refine sc (And.intro (by omega) trivial) ?_ | refine sc (And.intro rfl (Nat.le_of_ble_eq_true rfl)) ?_ | refine sc (And.intro (by simp only [List.length_map, List.length_append, List.length_cons, List.length_nil, List.length_set, List.length_replicate, List.length_singleton] at *; omega) trivial) ?_ | refine sc (by decide) ?_ | refine sc (fun _ => trivial) ?_ | refine And.intro (fun _ => rfl) ?_ | refine sc (fun _ => And.intro (by omega) trivial) ?_))
    rw [← cr_yes (q := fun _ => true) rfl]
    exact inc (hK (i + 1) (by omega) (by omega))
  · have : i = m.ws.length := by omega
    subst this
    (repeat (first | refine st ?_ | refine And.intro rfl ?_ | refine sc (by omega) ?_ | refine sc (by simp only [List.length_map, List.length_append, List.length_cons, List.length_nil, List.length_set, List.length_replicate, List.length_singleton] at *; omega) ?_ | refine sc (And.intro (by omega) trivial) ?_ | refine sc (And.intro rfl (Nat.le_of_ble_eq_true rfl)) ?_ | refine sc (And.intro (by simp only [List.length_map, List.length_append, List.length_cons, List.length_nil, List.length_set, List.length_replicate, List.length_singleton] at *; omega) trivial) ?_ | refine sc (by decide) ?_ | refine sc (fun _ => trivial) ?_ | refine And.intro (fun _ => rfl) ?_ | refine sc (fun _ => And.intro (by omega) trivial) ?_))
    refine ent_nil S_sector_waiting.c 67 ?_
    exact inc (M := vr p 61 S_sector_Disk.c ⟨s, Sl.nil⟩ :: sl cA 64 s (cr m (fun _ => true) m.ws.length) :: sl S_sector_waiting.c 67 Sl.nil [] :: F) (disk_shut (m := crM m (fun _ => true)) h)
/-! ## The reference's crash -/
theorem put_next {X Z : List UInt8} {a : List UInt8} {o j : Nat} (hj : j < a.length) (ho : o + j < Z.length) (hx : X.length = o) : (X ++ (a.take j ++ Z.drop (o + j))).set (o + j) (a.getD j default) = X ++ (a.take (j + 1) ++ Z.drop (o + (j + 1))) := by
  have h1 : (a.take j).length = j := by rw [List.length_take]; omega
  rw [List.set_append, hx, if_neg (by omega), List.set_append, h1, if_neg (by omega), show o + j - o - j = 0 from by omega, drop_getD ho, List.set_cons_zero, take_one hj, List.append_assoc]
  rfl
theorem put_ok {b k o : Nat} {d : List A64} {a : A64} {s w ds : Sl} {G : List HProp} {K8 : List Value → W} [rs : Rs G ds cU8 a.l] (ho : o < d.length) (hd : d.length ≤ 4096) (hk : k ≤ 9223372036854775806)
    (h : Ent (vr p 47 S_wicketref04_Disk.c ⟨s, w⟩ :: sl cU8 5 s (fl (d.set o a)) :: G) (K8 [.int .i64 (k + 1 : Nat)])) :
    Ent (vr p 47 S_wicketref04_Disk.c ⟨s, w⟩ :: sl cU8 5 s (fl d) :: vr b 69 S_wicketref04_Write.c ⟨o, ds⟩ :: G) (nf27_2 K8 (.pointer (pt p)) (.pointer (pt b)) (.int .i64 k)) := by
  unfold nf27_2
  have hl := fl_len (d := d)
  have ha := a.len
  have hX : ((fl d).take (o * 64)).length = o * 64 := by rw [List.length_take]; omega
  refine ent_loop (γ := Nat) (fun j => [.int .i64 j]) (fun j => sl cU8 5 s ((fl d).take (o * 64) ++ (a.l.take j ++ (fl d).drop (o * 64 + j))) :: vr p 47 S_wicketref04_Disk.c ⟨s, w⟩ :: vr b 69 S_wicketref04_Write.c ⟨o, ds⟩ :: G)
    (fun j => j ≤ 64) (fun j => 64 - j) 0 rfl (by omega) ⟨fun _ hs => ?_⟩ ?_
  · rw [List.take_zero, List.nil_append, Nat.add_zero, List.take_append_drop]
    exact sats_swap hs
  intro j hj K1 e hK
  simp only [List.headD_cons] at *
  have hlen : ((fl d).take (o * 64) ++ (a.l.take j ++ (fl d).drop (o * 64 + j))).length = d.length * 64 := by
    rw [List.length_append, hX, List.length_append, List.length_take, List.length_drop]; omega
  refine cs (fun h3 => ?_) (fun h3 => ?_)
  · (repeat (first | refine st ?_ | refine And.intro rfl ?_ | refine sc (by omega) ?_ | refine sc (by simp only [List.length_map, List.length_append, List.length_cons, List.length_nil, List.length_set, List.length_replicate, List.length_singleton] at *; omega) ?_ | refine sc (And.intro (by omega) trivial) ?_ | refine sc (And.intro rfl (Nat.le_of_ble_eq_true rfl)) ?_ | refine sc (And.intro (by simp only [List.length_map, List.length_append, List.length_cons, List.length_nil, List.length_set, List.length_replicate, List.length_singleton] at *; omega) trivial) ?_ | refine sc (by decide) ?_ | refine sc (fun _ => trivial) ?_ | refine And.intro (fun _ => rfl) ?_ | refine sc (fun _ => And.intro (by omega) trivial) ?_))
    have e1 : ((o : Int) * 64 + j).toNat = o * 64 + j := by omega
    rw [show ((⟨(o : Int), ds⟩ : S_wicketref04_Write).Sector * 64 + (j : Int)).toNat = o * 64 + j from e1, put_next (by omega) (by omega) hX]
    exact hK (j + 1) (by omega) (by omega)
  · have : j = 64 := by omega
    subst this
    unfold nf27_1
    (repeat (first | refine st ?_ | refine And.intro rfl ?_ | refine sc (by omega) ?_ | refine sc (by simp only [List.length_map, List.length_append, List.length_cons, List.length_nil, List.length_set, List.length_replicate, List.length_singleton] at *; omega) ?_ | refine sc (And.intro (by omega) trivial) ?_ | refine sc (And.intro rfl (Nat.le_of_ble_eq_true rfl)) ?_ | refine sc (And.intro (by simp only [List.length_map, List.length_append, List.length_cons, List.length_nil, List.length_set, List.length_replicate, List.length_singleton] at *; omega) trivial) ?_ | refine sc (by decide) ?_ | refine sc (fun _ => trivial) ?_ | refine And.intro (fun _ => rfl) ?_ | refine sc (fun _ => And.intro (by omega) trivial) ?_))
    have ht : a.l.take 64 = a.l := List.take_of_length_le (by omega)
    rw [← List.append_assoc, ht, ← fl_set ho]
    exact inc h
theorem refCrash_ok {s : Sl} {ks : List Int} [rs : Rs F s (cInt .i64) ks] (hm : DOk m) (hk : ks.length ≤ 9223372036854775806) (h : Ent (refAt p (crM m (qOf ks)) :: F) (K (.int .i64 m.ws.length))) : Ent (refAt p m :: F) (callC Try.prog 27 [.pointer (pt p), sv s] K) := by
  refine ent_mono ?_ fun w => nf27_ok
  unfold nf27
  have h1 := hm.most
  have h2 := hm.len
  refine ref_open fun s1 w zs hz => ?_
  have hzl : zs.length = m.ws.length := by have := congrArg List.length hz; simpa using this
  have hml : (zs.map (·.1)).length = m.ws.length := by rw [List.length_map, hzl]
  (repeat (first | refine st ?_ | refine And.intro rfl ?_ | refine sc (by omega) ?_ | refine sc (by simp only [List.length_map, List.length_append, List.length_cons, List.length_nil, List.length_set, List.length_replicate, List.length_singleton] at *; omega) ?_ | refine sc (And.intro (by omega) trivial) ?_ | refine sc (And.intro rfl (Nat.le_of_ble_eq_true rfl)) ?_ | refine sc (And.intro (by simp only [List.length_map, List.length_append, List.length_cons, List.length_nil, List.length_set, List.length_replicate, List.length_singleton] at *; omega) trivial) ?_ | refine sc (by decide) ?_ | refine sc (fun _ => trivial) ?_ | refine And.intro (fun _ => rfl) ?_ | refine sc (fun _ => And.intro (by omega) trivial) ?_))
  rw [hml]
  refine ent_loop (γ := Nat) (fun i => [.int .i64 i]) (fun i => vr p 47 S_wicketref04_Disk.c ⟨s1, w⟩ :: sl cU8 5 s1 (fl (cr m (qOf ks) i)) :: sl S_wicketref04_Write.c 69 w (zs.map (·.1)) :: bg rp zs :: F) (fun i => i ≤ m.ws.length) (fun i => m.ws.length - i) 0 rfl (by omega) ⟨fun _ hs => hs⟩ ?_
  intro i hi K1 j hK
  simp only [List.headD_cons] at *
  refine cs (fun h3 => ?_) (fun h3 => ?_)
  · have hiw : i < m.ws.length := by omega
    have hin := hm.in_ _ (getD_mem hiw)
    have hgz : (zs.getD i default).1.Sector = (m.ws.getD i default).sector ∧ (zs.getD i default).2 = (m.ws.getD i default).bytes.l := by
      have : (zs.map rOf).getD i default = (m.ws.map wOf).getD i default := by rw [hz]
      rw [getD_map' (by omega), getD_map' hiw] at this
      exact ⟨congrArg (·.1) this, congrArg (·.2) this⟩
    have hg1 : (zs.map (·.1)).getD i default = (zs.getD i default).1 := getD_map' (by omega)
    haveI r1 : ∀ M, Rs (bg rp zs :: M) (zs.getD i default).1.Data cU8 (m.ws.getD i default).bytes.l := fun M => hgz.2 ▸ rs_bg (f := rp) (l := zs) (i := i) (by omega) (fun M => (inferInstance : Rs (sl cU8 5 (zs.getD i default).1.Data (zs.getD i default).2 :: M) _ _ _)) M
    obtain ⟨o, ho⟩ : ∃ o : Nat, (m.ws.getD i default).sector = o := ⟨(m.ws.getD i default).sector.toNat, by omega⟩
    rw [ho] at hin
    have hzi : (zs.getD i default).1 = ⟨(o : Int), (zs.getD i default).1.Data⟩ := by
      rw [← ho, ← hgz.1]
    (repeat (first | refine st ?_ | refine And.intro rfl ?_ | refine sc (by omega) ?_ | refine sc (by simp only [List.length_map, List.length_append, List.length_cons, List.length_nil, List.length_set, List.length_replicate, List.length_singleton] at *; omega) ?_ | refine sc (And.intro (by omega) trivial) ?_ | refine sc (And.intro rfl (Nat.le_of_ble_eq_true rfl)) ?_ | refine sc (And.intro (by simp only [List.length_map, List.length_append, List.length_cons, List.length_nil, List.length_set, List.length_replicate, List.length_singleton] at *; omega) trivial) ?_ | refine sc (by decide) ?_ | refine sc (fun _ => trivial) ?_ | refine And.intro (fun _ => rfl) ?_ | refine sc (fun _ => And.intro (by omega) trivial) ?_))
    unfold nf27_3
    refine ent_loop (γ := Nat) (fun k => [.int .i64 k])
      (fun k => vr p 47 S_wicketref04_Disk.c ⟨s1, w⟩ :: sl cU8 5 s1 (fl (if (i : Int) ∈ ks.take k then (cr m (qOf ks) i).set o (m.ws.getD i default).bytes else cr m (qOf ks) i)) :: sl S_wicketref04_Write.c 69 w (zs.map (·.1)) :: bg rp zs :: F)
      (fun k => k ≤ ks.length) (fun k => ks.length - k) 0 rfl (by omega) ⟨fun _ hs => by rw [List.take_zero, if_neg (by simp)]; exact hs⟩ ?_
    have hK0 := hK
    clear hK
    intro k hk2 K2 j2 hK
    simp only [List.headD_cons] at *
    have hlen : (if (i : Int) ∈ ks.take k then (cr m (qOf ks) i).set o (m.ws.getD i default).bytes else cr m (qOf ks) i).length = m.dur.length := by
      split
      · rw [List.length_set, cr_len]
      · rw [cr_len]
    (repeat (first | refine st ?_ | refine And.intro rfl ?_ | refine sc (by omega) ?_ | refine sc (by simp only [List.length_map, List.length_append, List.length_cons, List.length_nil, List.length_set, List.length_replicate, List.length_singleton] at *; omega) ?_ | refine sc (And.intro (by omega) trivial) ?_ | refine sc (And.intro rfl (Nat.le_of_ble_eq_true rfl)) ?_ | refine sc (And.intro (by simp only [List.length_map, List.length_append, List.length_cons, List.length_nil, List.length_set, List.length_replicate, List.length_singleton] at *; omega) trivial) ?_ | refine sc (by decide) ?_ | refine sc (fun _ => trivial) ?_ | refine And.intro (fun _ => rfl) ?_ | refine sc (fun _ => And.intro (by omega) trivial) ?_))
    refine cs (fun h5 => ?_) (fun h5 => ?_)
    · have hkk : k < ks.length := by omega
      (repeat (first | refine st ?_ | refine And.intro rfl ?_ | refine sc (by omega) ?_ | refine sc (by simp only [List.length_map, List.length_append, List.length_cons, List.length_nil, List.length_set, List.length_replicate, List.length_singleton] at *; omega) ?_ | refine sc (And.intro (by omega) trivial) ?_ | refine sc (And.intro rfl (Nat.le_of_ble_eq_true rfl)) ?_ | refine sc (And.intro (by simp only [List.length_map, List.length_append, List.length_cons, List.length_nil, List.length_set, List.length_replicate, List.length_singleton] at *; omega) trivial) ?_ | refine sc (by decide) ?_ | refine sc (fun _ => trivial) ?_ | refine And.intro (fun _ => rfl) ?_ | refine sc (fun _ => And.intro (by omega) trivial) ?_))
      refine cs (fun h6 => ?_) (fun h6 => ?_)
      · (repeat (first | refine st ?_ | refine And.intro rfl ?_ | refine sc (by omega) ?_ | refine sc (by simp only [List.length_map, List.length_append, List.length_cons, List.length_nil, List.length_set, List.length_replicate, List.length_singleton] at *; omega) ?_ | refine sc (And.intro (by omega) trivial) ?_ | refine sc (And.intro rfl (Nat.le_of_ble_eq_true rfl)) ?_ | refine sc (And.intro (by simp only [List.length_map, List.length_append, List.length_cons, List.length_nil, List.length_set, List.length_replicate, List.length_singleton] at *; omega) trivial) ?_ | refine sc (by decide) ?_ | refine sc (fun _ => trivial) ?_ | refine And.intro (fun _ => rfl) ?_ | refine sc (fun _ => And.intro (by omega) trivial) ?_))
        intro b
        (repeat (first | refine st ?_ | refine And.intro rfl ?_ | refine sc (by omega) ?_ | refine sc (by simp only [List.length_map, List.length_append, List.length_cons, List.length_nil, List.length_set, List.length_replicate, List.length_singleton] at *; omega) ?_ | refine sc (And.intro (by omega) trivial) ?_ | refine sc (And.intro rfl (Nat.le_of_ble_eq_true rfl)) ?_ | refine sc (And.intro (by simp only [List.length_map, List.length_append, List.length_cons, List.length_nil, List.length_set, List.length_replicate, List.length_singleton] at *; omega) trivial) ?_ | refine sc (by decide) ?_ | refine sc (fun _ => trivial) ?_ | refine And.intro (fun _ => rfl) ?_ | refine sc (fun _ => And.intro (by omega) trivial) ?_))
        rw [hg1, hzi]
        refine inc (put_ok (s := s1) (w := w) (a := (m.ws.getD i default).bytes) (d := if (i : Int) ∈ ks.take k then (cr m (qOf ks) i).set o (m.ws.getD i default).bytes else cr m (qOf ks) i) (o := o) (k := k)
          (ds := (zs.getD i default).1.Data) (G := sl S_wicketref04_Write.c 69 w (zs.map (·.1)) :: bg rp zs :: F) (by rw [hlen]; omega) (by rw [hlen]; omega) (by omega) ?_)
        have e : (if (i : Int) ∈ ks.take (k + 1) then (cr m (qOf ks) i).set o (m.ws.getD i default).bytes else cr m (qOf ks) i) = (if (i : Int) ∈ ks.take k then (cr m (qOf ks) i).set o (m.ws.getD i default).bytes else cr m (qOf ks) i).set o (m.ws.getD i default).bytes := by
          rw [if_pos (by rw [take_one hkk]; simp [← h6])]
          split
          · rw [List.set_set]
          · rfl
        rw [← e]
        exact hK (k + 1) (by omega) (by omega)
      · unfold nf27_1
        (repeat (first | refine st ?_ | refine And.intro rfl ?_ | refine sc (by omega) ?_ | refine sc (by simp only [List.length_map, List.length_append, List.length_cons, List.length_nil, List.length_set, List.length_replicate, List.length_singleton] at *; omega) ?_ | refine sc (And.intro (by omega) trivial) ?_ | refine sc (And.intro rfl (Nat.le_of_ble_eq_true rfl)) ?_ | refine sc (And.intro (by simp only [List.length_map, List.length_append, List.length_cons, List.length_nil, List.length_set, List.length_replicate, List.length_singleton] at *; omega) trivial) ?_ | refine sc (by decide) ?_ | refine sc (fun _ => trivial) ?_ | refine And.intro (fun _ => rfl) ?_ | refine sc (fun _ => And.intro (by omega) trivial) ?_))
        have e : (if (i : Int) ∈ ks.take (k + 1) then (cr m (qOf ks) i).set o (m.ws.getD i default).bytes else cr m (qOf ks) i) = (if (i : Int) ∈ ks.take k then (cr m (qOf ks) i).set o (m.ws.getD i default).bytes else cr m (qOf ks) i) := by
          have : (i : Int) ∈ ks.take (k + 1) ↔ (i : Int) ∈ ks.take k := by
            rw [take_one hkk, List.mem_append, List.mem_singleton]
            constructor
            · rintro (h | h)
              · exact h
              · exact absurd h.symm h6
            · exact .inl
          simp only [this]
        rw [← e]
        exact hK (k + 1) (by omega) (by omega)
    · (repeat (first | refine st ?_ | refine And.intro rfl ?_ | refine sc (by omega) ?_ | refine sc (by simp only [List.length_map, List.length_append, List.length_cons, List.length_nil, List.length_set, List.length_replicate, List.length_singleton] at *; omega) ?_ | refine sc (And.intro (by omega) trivial) ?_ | refine sc (And.intro rfl (Nat.le_of_ble_eq_true rfl)) ?_ | refine sc (And.intro (by simp only [List.length_map, List.length_append, List.length_cons, List.length_nil, List.length_set, List.length_replicate, List.length_singleton] at *; omega) trivial) ?_ | refine sc (by decide) ?_ | refine sc (fun _ => trivial) ?_ | refine And.intro (fun _ => rfl) ?_ | refine sc (fun _ => And.intro (by omega) trivial) ?_))
      have hkl : k = ks.length := by omega
      subst hkl
      have e : (if (i : Int) ∈ ks.take ks.length then (cr m (qOf ks) i).set o (m.ws.getD i default).bytes else cr m (qOf ks) i) = cr m (qOf ks) (i + 1) := by
        rw [List.take_length]
        show _ = if qOf ks i = true then (cr m (qOf ks) i).set (m.ws.getD i default).sector.toNat (m.ws.getD i default).bytes else cr m (qOf ks) i
        rw [ho, Int.toNat_natCast]
        simp only [qOf, decide_eq_true_eq]
      rw [e]
      exact hK0 (i + 1) (by omega) (by omega)
  · have : i = m.ws.length := by omega
    subst this
    (repeat (first | refine st ?_ | refine And.intro rfl ?_ | refine sc (by omega) ?_ | refine sc (by simp only [List.length_map, List.length_append, List.length_cons, List.length_nil, List.length_set, List.length_replicate, List.length_singleton] at *; omega) ?_ | refine sc (And.intro (by omega) trivial) ?_ | refine sc (And.intro rfl (Nat.le_of_ble_eq_true rfl)) ?_ | refine sc (And.intro (by simp only [List.length_map, List.length_append, List.length_cons, List.length_nil, List.length_set, List.length_replicate, List.length_singleton] at *; omega) trivial) ?_ | refine sc (by decide) ?_ | refine sc (fun _ => trivial) ?_ | refine And.intro (fun _ => rfl) ?_ | refine sc (fun _ => And.intro (by omega) trivial) ?_))
    refine ent_nil S_wicketref04_Write.c 69 (bg_nil rp ?_)
    exact inc (M := vr p 47 S_wicketref04_Disk.c ⟨s1, Sl.nil⟩ :: sl cU8 5 s1 (fl (cr m (qOf ks) m.ws.length)) :: sl S_wicketref04_Write.c 69 Sl.nil [] :: bg rp [] :: F) (ref_shut (m := crM m (qOf ks)) (zs := []) rfl h)
theorem refFlush_ok (hm : DOk m) (h : Ent (refAt p (crM m (fun _ => true)) :: F) (K (.int .i64 m.ws.length))) : Ent (refAt p m :: F) (callC Try.prog 26 [.pointer (pt p)] K) := by
  refine ent_mono ?_ fun w => nf26_ok
  unfold nf26
  have h1 := hm.most
  refine ent_nil (cInt .i64) 3 ?_
  refine ent_loop (γ := Sl × Nat) (fun t => [sv t.1, .int .i64 t.2]) (fun t => sl (cInt .i64) 3 t.1 ((List.range t.2).map fun (i : Nat) => (i : Int)) :: refAt p m :: F) (fun t => t.2 ≤ m.ws.length) (fun t => m.ws.length - t.2) (Sl.nil, 0) rfl (by simp) ⟨fun _ hs => hs⟩ ?_
  intro ⟨s, i⟩ hi K1 j hK
  simp only [List.headD_cons, List.tail_cons] at *
  refine ent_take (A := refAt p m) (ref_open fun s1 w zs hz => ?_)
  have hzl : zs.length = m.ws.length := by have := congrArg List.length hz; simpa using this
  have hml : (zs.map (·.1)).length = m.ws.length := by rw [List.length_map, hzl]
  (repeat (first | refine st ?_ | refine And.intro rfl ?_ | refine sc (by omega) ?_ | refine sc (by simp only [List.length_map, List.length_append, List.length_cons, List.length_nil, List.length_set, List.length_replicate, List.length_singleton] at *; omega) ?_ | refine sc (And.intro (by omega) trivial) ?_ | refine sc (And.intro rfl (Nat.le_of_ble_eq_true rfl)) ?_ | refine sc (And.intro (by simp only [List.length_map, List.length_append, List.length_cons, List.length_nil, List.length_set, List.length_replicate, List.length_singleton] at *; omega) trivial) ?_ | refine sc (by decide) ?_ | refine sc (fun _ => trivial) ?_ | refine And.intro (fun _ => rfl) ?_ | refine sc (fun _ => And.intro (by omega) trivial) ?_))
  rw [hml]
  refine cs (fun h3 => ?_) (fun h3 => ?_)
  · (repeat (first | refine st ?_ | refine And.intro rfl ?_ | refine sc (by omega) ?_ | refine sc (by simp only [List.length_map, List.length_append, List.length_cons, List.length_nil, List.length_set, List.length_replicate, List.length_singleton] at *; omega) ?_ | refine sc (And.intro (by omega) trivial) ?_ | refine sc (And.intro rfl (Nat.le_of_ble_eq_true rfl)) ?_ | refine sc (And.intro (by simp only [List.length_map, List.length_append, List.length_cons, List.length_nil, List.length_set, List.length_replicate, List.length_singleton] at *; omega) trivial) ?_ | refine sc (by decide) ?_ | refine sc (fun _ => trivial) ?_ | refine And.intro (fun _ => rfl) ?_ | refine sc (fun _ => And.intro (by omega) trivial) ?_))
    intro s2
    refine sc (by simp only [List.length_map, List.length_range, List.length_singleton]; omega) ?_
    intro s3
    (repeat (first | refine st ?_ | refine And.intro rfl ?_ | refine sc (by omega) ?_ | refine sc (by simp only [List.length_map, List.length_append, List.length_cons, List.length_nil, List.length_set, List.length_replicate, List.length_singleton] at *; omega) ?_ | refine sc (And.intro (by omega) trivial) ?_ | refine sc (And.intro rfl (Nat.le_of_ble_eq_true rfl)) ?_ | refine sc (And.intro (by simp only [List.length_map, List.length_append, List.length_cons, List.length_nil, List.length_set, List.length_replicate, List.length_singleton] at *; omega) trivial) ?_ | refine sc (by decide) ?_ | refine sc (fun _ => trivial) ?_ | refine And.intro (fun _ => rfl) ?_ | refine sc (fun _ => And.intro (by omega) trivial) ?_))
    have e : ((List.range i).map fun (i : Nat) => (i : Int)) ++ [(i : Int)] = (List.range (i + 1)).map fun (i : Nat) => (i : Int) := by rw [List.range_succ, List.map_append]; rfl
    rw [e]
    have h9 := hK (s3, i + 1) (by show i + 1 ≤ _; omega) (by show _ - (i + 1) < _; omega)
    exact inc (M := vr p 47 S_wicketref04_Disk.c ⟨s1, w⟩ :: sl cU8 5 s1 (fl m.dur) :: sl S_wicketref04_Write.c 69 w (zs.map (·.1)) :: bg rp zs :: sl (cInt .i64) 3 s3 ((List.range (i + 1)).map fun (i : Nat) => (i : Int)) :: F) (ref_shut hz (inc h9))
  · have : i = m.ws.length := by omega
    subst this
    (repeat (first | refine st ?_ | refine And.intro rfl ?_ | refine sc (by omega) ?_ | refine sc (by simp only [List.length_map, List.length_append, List.length_cons, List.length_nil, List.length_set, List.length_replicate, List.length_singleton] at *; omega) ?_ | refine sc (And.intro (by omega) trivial) ?_ | refine sc (And.intro rfl (Nat.le_of_ble_eq_true rfl)) ?_ | refine sc (And.intro (by simp only [List.length_map, List.length_append, List.length_cons, List.length_nil, List.length_set, List.length_replicate, List.length_singleton] at *; omega) trivial) ?_ | refine sc (by decide) ?_ | refine sc (fun _ => trivial) ?_ | refine And.intro (fun _ => rfl) ?_ | refine sc (fun _ => And.intro (by omega) trivial) ?_))
    refine inc (M := vr p 47 S_wicketref04_Disk.c ⟨s1, w⟩ :: sl cU8 5 s1 (fl m.dur) :: sl S_wicketref04_Write.c 69 w (zs.map (·.1)) :: bg rp zs :: sl (cInt .i64) 3 s ((List.range m.ws.length).map fun (i : Nat) => (i : Int)) :: F) (ref_shut hz ?_)
    refine refCrash_ok (ks := (List.range m.ws.length).map fun (i : Nat) => (i : Int)) hm (by simp only [List.length_map, List.length_range]; omega) ?_
    have e : crM m (qOf ((List.range m.ws.length).map fun (i : Nat) => (i : Int))) = crM m (fun _ => true) := by
      have : ∀ i, i ≤ m.ws.length → cr m (qOf ((List.range m.ws.length).map fun (i : Nat) => (i : Int))) i = cr m (fun _ => true) i := by
        intro i
        induction i with
        | zero => intro _; rfl
        | succ i ih =>
          intro hi
          have : qOf ((List.range m.ws.length).map fun (i : Nat) => (i : Int)) i = true := by
            simp only [qOf, decide_eq_true_eq, List.mem_map, List.mem_range]
            exact ⟨i, by omega, rfl⟩
          rw [cr_yes this, cr_yes (q := fun _ => true) rfl, ih (by omega)]
      unfold crM
      rw [this _ (Nat.le_refl _)]
    rw [e]
    exact inc h
/-! ## Copies -/
theorem copy_ok (hm : DOk m) (h : ∀ q, Ent (diskAt q m :: diskAt p m :: F) (K (.pointer (pt q)))) : Ent (diskAt p m :: F) (callC Try.prog 7 [.pointer (pt p)] K) := by
  refine ent_mono ?_ fun w => nf7_ok
  unfold nf7
  have h1 := hm.most
  have h2 := hm.len
  refine disk_open fun s w => ?_
  (repeat (first | refine st ?_ | refine And.intro rfl ?_ | refine sc (by omega) ?_ | refine sc (by simp only [List.length_map, List.length_append, List.length_cons, List.length_nil, List.length_set, List.length_replicate, List.length_singleton] at *; omega) ?_ | refine sc (And.intro (by omega) trivial) ?_ | refine sc (And.intro rfl (Nat.le_of_ble_eq_true rfl)) ?_ | refine sc (And.intro (by simp only [List.length_map, List.length_append, List.length_cons, List.length_nil, List.length_set, List.length_replicate, List.length_singleton] at *; omega) trivial) ?_ | refine sc (by decide) ?_ | refine sc (fun _ => trivial) ?_ | refine And.intro (fun _ => rfl) ?_ | refine sc (fun _ => And.intro (by omega) trivial) ?_))
  refine cloneD_ok (l := m.dur) (by omega) fun s2 => ?_
  (repeat (first | refine st ?_ | refine And.intro rfl ?_ | refine sc (by omega) ?_ | refine sc (by simp only [List.length_map, List.length_append, List.length_cons, List.length_nil, List.length_set, List.length_replicate, List.length_singleton] at *; omega) ?_ | refine sc (And.intro (by omega) trivial) ?_ | refine sc (And.intro rfl (Nat.le_of_ble_eq_true rfl)) ?_ | refine sc (And.intro (by simp only [List.length_map, List.length_append, List.length_cons, List.length_nil, List.length_set, List.length_replicate, List.length_singleton] at *; omega) trivial) ?_ | refine sc (by decide) ?_ | refine sc (fun _ => trivial) ?_ | refine And.intro (fun _ => rfl) ?_ | refine sc (fun _ => And.intro (by omega) trivial) ?_))
  refine cloneW_ok (l := m.ws) (by omega) fun w2 => ?_
  (repeat (first | refine st ?_ | refine And.intro rfl ?_ | refine sc (by omega) ?_ | refine sc (by simp only [List.length_map, List.length_append, List.length_cons, List.length_nil, List.length_set, List.length_replicate, List.length_singleton] at *; omega) ?_ | refine sc (And.intro (by omega) trivial) ?_ | refine sc (And.intro rfl (Nat.le_of_ble_eq_true rfl)) ?_ | refine sc (And.intro (by simp only [List.length_map, List.length_append, List.length_cons, List.length_nil, List.length_set, List.length_replicate, List.length_singleton] at *; omega) trivial) ?_ | refine sc (by decide) ?_ | refine sc (fun _ => trivial) ?_ | refine And.intro (fun _ => rfl) ?_ | refine sc (fun _ => And.intro (by omega) trivial) ?_))
  intro q
  refine inc (M := vr q 61 S_sector_Disk.c ⟨s2, w2⟩ :: sl cA 64 s2 m.dur :: sl S_sector_waiting.c 67 w2 m.ws :: vr p 61 S_sector_Disk.c ⟨s, w⟩ :: sl cA 64 s m.dur :: sl S_sector_waiting.c 67 w m.ws :: F) (disk_shut ?_)
  exact inc (M := vr p 61 S_sector_Disk.c ⟨s, w⟩ :: sl cA 64 s m.dur :: sl S_sector_waiting.c 67 w m.ws :: diskAt q m :: F) (disk_shut (inc (h q)))
theorem refCopy_ok (hm : DOk m) (h : ∀ q, Ent (refAt q m :: refAt p m :: F) (K (.pointer (pt q)))) : Ent (refAt p m :: F) (callC Try.prog 8 [.pointer (pt p)] K) := by
  refine ent_mono ?_ fun w => nf8_ok
  unfold nf8
  have h1 := hm.most
  have h2 := hm.len
  have hfl := fl_len (d := m.dur)
  (repeat (first | refine st ?_ | refine And.intro rfl ?_ | refine sc (by omega) ?_ | refine sc (by simp only [List.length_map, List.length_append, List.length_cons, List.length_nil, List.length_set, List.length_replicate, List.length_singleton] at *; omega) ?_ | refine sc (And.intro (by omega) trivial) ?_ | refine sc (And.intro rfl (Nat.le_of_ble_eq_true rfl)) ?_ | refine sc (And.intro (by simp only [List.length_map, List.length_append, List.length_cons, List.length_nil, List.length_set, List.length_replicate, List.length_singleton] at *; omega) trivial) ?_ | refine sc (by decide) ?_ | refine sc (fun _ => trivial) ?_ | refine And.intro (fun _ => rfl) ?_ | refine sc (fun _ => And.intro (by omega) trivial) ?_))
  intro s1
  refine ent_take (A := refAt p m) (ref_open fun s w zs hz => ?_)
  have hzl : zs.length = m.ws.length := by have := congrArg List.length hz; simpa using this
  have hml : (zs.map (·.1)).length = m.ws.length := by rw [List.length_map, hzl]
  (repeat (first | refine st ?_ | refine And.intro rfl ?_ | refine sc (by omega) ?_ | refine sc (by simp only [List.length_map, List.length_append, List.length_cons, List.length_nil, List.length_set, List.length_replicate, List.length_singleton] at *; omega) ?_ | refine sc (And.intro (by omega) trivial) ?_ | refine sc (And.intro rfl (Nat.le_of_ble_eq_true rfl)) ?_ | refine sc (And.intro (by simp only [List.length_map, List.length_append, List.length_cons, List.length_nil, List.length_set, List.length_replicate, List.length_singleton] at *; omega) trivial) ?_ | refine sc (by decide) ?_ | refine sc (fun _ => trivial) ?_ | refine And.intro (fun _ => rfl) ?_ | refine sc (fun _ => And.intro (by omega) trivial) ?_))
  intro s2
  (repeat (first | refine st ?_ | refine And.intro rfl ?_ | refine sc (by omega) ?_ | refine sc (by simp only [List.length_map, List.length_append, List.length_cons, List.length_nil, List.length_set, List.length_replicate, List.length_singleton] at *; omega) ?_ | refine sc (And.intro (by omega) trivial) ?_ | refine sc (And.intro rfl (Nat.le_of_ble_eq_true rfl)) ?_ | refine sc (And.intro (by simp only [List.length_map, List.length_append, List.length_cons, List.length_nil, List.length_set, List.length_replicate, List.length_singleton] at *; omega) trivial) ?_ | refine sc (by decide) ?_ | refine sc (fun _ => trivial) ?_ | refine And.intro (fun _ => rfl) ?_ | refine sc (fun _ => And.intro (by omega) trivial) ?_))
  intro q
  rw [List.nil_append]
  refine ent_nil S_wicketref04_Write.c 69 (bg_nil rp ?_)
  refine ent_loop (γ := Sl × List RW × Nat) (fun t => [.int .i64 t.2.2]) (fun t => bg rp t.2.1 :: sl S_wicketref04_Write.c 69 t.1 (t.2.1.map (·.1)) :: vr q 47 S_wicketref04_Disk.c ⟨s2, t.1⟩ :: sl cU8 5 s2 (fl m.dur) :: vr p 47 S_wicketref04_Disk.c ⟨s, w⟩ :: sl cU8 5 s (fl m.dur) :: sl S_wicketref04_Write.c 69 w (zs.map (·.1)) :: bg rp zs :: F)
    (fun t => t.2.2 ≤ m.ws.length ∧ t.2.1.map rOf = (m.ws.take t.2.2).map wOf) (fun t => m.ws.length - t.2.2) (Sl.nil, [], 0) rfl ⟨by simp, rfl⟩ ⟨fun _ hs => hs⟩ ?_
  intro ⟨s3, zs2, i⟩ ⟨hi, hz2⟩ K1 j hK
  simp only [List.headD_cons] at *
  have hz2l : zs2.length = i := by
    have := congrArg List.length hz2
    simp only [List.length_map, List.length_take] at this
    omega
  (repeat (first | refine st ?_ | refine And.intro rfl ?_ | refine sc (by omega) ?_ | refine sc (by simp only [List.length_map, List.length_append, List.length_cons, List.length_nil, List.length_set, List.length_replicate, List.length_singleton] at *; omega) ?_ | refine sc (And.intro (by omega) trivial) ?_ | refine sc (And.intro rfl (Nat.le_of_ble_eq_true rfl)) ?_ | refine sc (And.intro (by simp only [List.length_map, List.length_append, List.length_cons, List.length_nil, List.length_set, List.length_replicate, List.length_singleton] at *; omega) trivial) ?_ | refine sc (by decide) ?_ | refine sc (fun _ => trivial) ?_ | refine And.intro (fun _ => rfl) ?_ | refine sc (fun _ => And.intro (by omega) trivial) ?_))
  rw [hml]
  refine cs (fun h3 => ?_) (fun h3 => ?_)
  · have hiw : i < m.ws.length := by omega
    have hgz : (zs.getD i default).1.Sector = (m.ws.getD i default).sector ∧ (zs.getD i default).2 = (m.ws.getD i default).bytes.l := by
      have : (zs.map rOf).getD i default = (m.ws.map wOf).getD i default := by rw [hz]
      rw [getD_map' (by omega), getD_map' hiw] at this
      exact ⟨congrArg (·.1) this, congrArg (·.2) this⟩
    have hg1 : (zs.map (·.1)).getD i default = (zs.getD i default).1 := getD_map' (by omega)
    haveI r1 : ∀ M, Rs (bg rp zs :: M) (zs.getD i default).1.Data cU8 (m.ws.getD i default).bytes.l := fun M => hgz.2 ▸ rs_bg (f := rp) (l := zs) (i := i) (by omega) (fun M => (inferInstance : Rs (sl cU8 5 (zs.getD i default).1.Data (zs.getD i default).2 :: M) _ _ _)) M
    have hb := (m.ws.getD i default).bytes.len
    (repeat (first | refine st ?_ | refine And.intro rfl ?_ | refine sc (by omega) ?_ | refine sc (by simp only [List.length_map, List.length_append, List.length_cons, List.length_nil, List.length_set, List.length_replicate, List.length_singleton] at *; omega) ?_ | refine sc (And.intro (by omega) trivial) ?_ | refine sc (And.intro rfl (Nat.le_of_ble_eq_true rfl)) ?_ | refine sc (And.intro (by simp only [List.length_map, List.length_append, List.length_cons, List.length_nil, List.length_set, List.length_replicate, List.length_singleton] at *; omega) trivial) ?_ | refine sc (by decide) ?_ | refine sc (fun _ => trivial) ?_ | refine And.intro (fun _ => rfl) ?_ | refine sc (fun _ => And.intro (by omega) trivial) ?_))
    rw [hg1]
    intro s4
    (repeat (first | refine st ?_ | refine And.intro rfl ?_ | refine sc (by omega) ?_ | refine sc (by simp only [List.length_map, List.length_append, List.length_cons, List.length_nil, List.length_set, List.length_replicate, List.length_singleton] at *; omega) ?_ | refine sc (And.intro (by omega) trivial) ?_ | refine sc (And.intro rfl (Nat.le_of_ble_eq_true rfl)) ?_ | refine sc (And.intro (by simp only [List.length_map, List.length_append, List.length_cons, List.length_nil, List.length_set, List.length_replicate, List.length_singleton] at *; omega) trivial) ?_ | refine sc (by decide) ?_ | refine sc (fun _ => trivial) ?_ | refine And.intro (fun _ => rfl) ?_ | refine sc (fun _ => And.intro (by omega) trivial) ?_ | refine And.intro (by rw [hg1]) ?_))
    intro s5
    (repeat (first | refine st ?_ | refine And.intro rfl ?_ | refine sc (by omega) ?_ | refine sc (by simp only [List.length_map, List.length_append, List.length_cons, List.length_nil, List.length_set, List.length_replicate, List.length_singleton] at *; omega) ?_ | refine sc (And.intro (by omega) trivial) ?_ | refine sc (And.intro rfl (Nat.le_of_ble_eq_true rfl)) ?_ | refine sc (And.intro (by simp only [List.length_map, List.length_append, List.length_cons, List.length_nil, List.length_set, List.length_replicate, List.length_singleton] at *; omega) trivial) ?_ | refine sc (by decide) ?_ | refine sc (fun _ => trivial) ?_ | refine And.intro (fun _ => rfl) ?_ | refine sc (fun _ => And.intro (by omega) trivial) ?_ | refine And.intro (by rw [hg1]) ?_))
    intro s6
    (repeat (first | refine st ?_ | refine And.intro rfl ?_ | refine sc (by omega) ?_ | refine sc (by simp only [List.length_map, List.length_append, List.length_cons, List.length_nil, List.length_set, List.length_replicate, List.length_singleton] at *; omega) ?_ | refine sc (And.intro (by omega) trivial) ?_ | refine sc (And.intro rfl (Nat.le_of_ble_eq_true rfl)) ?_ | refine sc (And.intro (by simp only [List.length_map, List.length_append, List.length_cons, List.length_nil, List.length_set, List.length_replicate, List.length_singleton] at *; omega) trivial) ?_ | refine sc (by decide) ?_ | refine sc (fun _ => trivial) ?_ | refine And.intro (fun _ => rfl) ?_ | refine sc (fun _ => And.intro (by omega) trivial) ?_ | refine And.intro (by rw [hg1]) ?_))
    intro s7
    (repeat (first | refine st ?_ | refine And.intro rfl ?_ | refine sc (by omega) ?_ | refine sc (by simp only [List.length_map, List.length_append, List.length_cons, List.length_nil, List.length_set, List.length_replicate, List.length_singleton] at *; omega) ?_ | refine sc (And.intro (by omega) trivial) ?_ | refine sc (And.intro rfl (Nat.le_of_ble_eq_true rfl)) ?_ | refine sc (And.intro (by simp only [List.length_map, List.length_append, List.length_cons, List.length_nil, List.length_set, List.length_replicate, List.length_singleton] at *; omega) trivial) ?_ | refine sc (by decide) ?_ | refine sc (fun _ => trivial) ?_ | refine And.intro (fun _ => rfl) ?_ | refine sc (fun _ => And.intro (by omega) trivial) ?_ | refine And.intro (by rw [hg1]) ?_))
    rw [List.nil_append]
    refine ent_take (A := bg rp zs2) (ent_take (A := sl cU8 5 s5 (m.ws.getD i default).bytes.l) (ent_take (A := bg rp zs2) (bg_snoc (f := rp) (x := (⟨(m.ws.getD i default).sector, s5⟩, (m.ws.getD i default).bytes.l)) ?_)))
    have h9 := hK (s7, zs2 ++ [(⟨(m.ws.getD i default).sector, s5⟩, (m.ws.getD i default).bytes.l)], i + 1) ⟨by show i + 1 ≤ _; omega, by
      show (zs2 ++ [_]).map rOf = (m.ws.take (i + 1)).map wOf
      rw [take_one hiw, List.map_append, List.map_append, hz2]
      rfl⟩ (by show _ - (i + 1) < _; omega)
    simp only [List.map_append, List.map_cons, List.map_nil] at h9
    rw [hgz.1]
    exact inc h9
  · have : i = m.ws.length := by omega
    subst this
    rw [List.take_length] at hz2
    (repeat (first | refine st ?_ | refine And.intro rfl ?_ | refine sc (by omega) ?_ | refine sc (by simp only [List.length_map, List.length_append, List.length_cons, List.length_nil, List.length_set, List.length_replicate, List.length_singleton] at *; omega) ?_ | refine sc (And.intro (by omega) trivial) ?_ | refine sc (And.intro rfl (Nat.le_of_ble_eq_true rfl)) ?_ | refine sc (And.intro (by simp only [List.length_map, List.length_append, List.length_cons, List.length_nil, List.length_set, List.length_replicate, List.length_singleton] at *; omega) trivial) ?_ | refine sc (by decide) ?_ | refine sc (fun _ => trivial) ?_ | refine And.intro (fun _ => rfl) ?_ | refine sc (fun _ => And.intro (by omega) trivial) ?_))
    refine inc (M := vr q 47 S_wicketref04_Disk.c ⟨s2, s3⟩ :: sl cU8 5 s2 (fl m.dur) :: sl S_wicketref04_Write.c 69 s3 (zs2.map (·.1)) :: bg rp zs2 :: vr p 47 S_wicketref04_Disk.c ⟨s, w⟩ :: sl cU8 5 s (fl m.dur) :: sl S_wicketref04_Write.c 69 w (zs.map (·.1)) :: bg rp zs :: F) (ref_shut hz2 ?_)
    exact inc (M := vr p 47 S_wicketref04_Disk.c ⟨s, w⟩ :: sl cU8 5 s (fl m.dur) :: sl S_wicketref04_Write.c 69 w (zs.map (·.1)) :: bg rp zs :: refAt q m :: F) (ref_shut hz (inc (h q)))
end
end Go.Proofs.Ytkopggalogppcaa
