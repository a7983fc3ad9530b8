/- Awake; locks alone; refused calls. -/
import Derived.Test.YtipjamgjgijeeaaLf
namespace Go.Proofs.Ytipjamgjgijeeaa
set_option linter.unusedSimpArgs false
set_option linter.unusedVariables false
open Go.Dn
set_option linter.unusedSectionVars false
set_option synthInstance.maxSize 10000
set_option synthInstance.maxHeartbeats 400000
set_option maxHeartbeats 2000000
variable [sd : Side]
section
variable {K : Value → W} {F : List HProp}
theorem blocks_ok {n : Int} (h : ∀ r : Nat, 1 ≤ r → r ≤ 9 → Ent F (K (.int .i64 r))) : Ent F (callC Try.prog 6 [.int .i64 n] K) := by
  refine ent_mono ?_ fun w => nf6_ok
  unfold nf6
  obtain ⟨w1, w2⟩ := tmod_bound (a := n) (b := 9) (by omega)
  (repeat (first | refine st ?_ | refine And.intro rfl ?_ | refine sc (by omega) ?_ | refine sc (by simp only [List.length_map, List.length_append, List.length_cons, List.length_nil, List.length_set, List.length_replicate, List.length_singleton] at *; omega) ?_ | refine sc (And.intro (by omega) trivial) ?_ | refine sc (And.intro rfl (Nat.le_of_ble_eq_true rfl)) ?_ | refine sc (And.intro (by simp only [List.length_map, List.length_append, List.length_cons, List.length_nil, List.length_set, List.length_replicate, List.length_singleton] at *; omega) trivial) ?_ | refine sc (by decide) ?_ | refine sc (fun _ => trivial) ?_ | refine And.intro (fun _ => rfl) ?_ | refine sc (fun _ => And.intro (by omega) trivial) ?_))
  rw [tmod_pos (a := n) (b := 9) (by omega)]
  obtain ⟨e1, e2⟩ := emod_bound (a := n) (b := 9) (by omega)
  (repeat (first | refine st ?_ | refine And.intro rfl ?_ | refine sc (by omega) ?_ | refine sc (by simp only [List.length_map, List.length_append, List.length_cons, List.length_nil, List.length_set, List.length_replicate, List.length_singleton] at *; omega) ?_ | refine sc (And.intro (by omega) trivial) ?_ | refine sc (And.intro rfl (Nat.le_of_ble_eq_true rfl)) ?_ | refine sc (And.intro (by simp only [List.length_map, List.length_append, List.length_cons, List.length_nil, List.length_set, List.length_replicate, List.length_singleton] at *; omega) trivial) ?_ | refine sc (by decide) ?_ | refine sc (fun _ => trivial) ?_ | refine And.intro (fun _ => rfl) ?_ | refine sc (fun _ => And.intro (by omega) trivial) ?_))
  have h1 := h (1 + n.emod 9).toNat (by omega) (by omega)
  rw [show (((1 + n.emod 9).toNat : Nat) : Int) = 1 + n.emod 9 from by omega] at h1
  exact h1
theorem rises2 {a b : Int} (h : a < b) : Rises [a, b] := ⟨by simp, fun i hi => by
  have : i = 0 := by simp at hi; omega
  subst this; exact h⟩
theorem rises1 {a : Int} : Rises [a] := ⟨by simp, fun i hi => by simp at hi⟩
/-- A lay that goes well. -/
theorem lay_well {p : Nat} {S : LS} (hw : WF S) {t : Int} {s : Sl} {l : List Int} [rs : Rs F s (cInt .i64) l] (hri : Rises l) (hin : ∀ x ∈ l, 0 ≤ x ∧ x < S.qs.length) (hmax : S.es.length ≤ 99) (ht : t = S.es.length + 1)
    (h : ∀ S' s', S'.es = S.es ++ [⟨s', l, 0, false⟩] → S'.qs.length = S.qs.length → WF S' → Ent (lockAt p S' :: F) (K (.int .i64 0))) : Ent (lockAt p S :: F) (callC Try.prog 20 [.pointer (pt p), .int .u64 t, sv s] K) := by
  have hle := rises_len hri hin
  have hn2 := hw.n2
  refine lay_ok (l := l) hw (by omega) hmax (by omega) (by omega) (fun hc => absurd hri hc) (fun _ hc => ?_) (fun hc => absurd hc (by omega)) (fun _ _ _ S' s' e1 e2 e3 => h S' s' e1 e2 e3)
  exfalso
  have hne : 0 < l.length := List.length_pos_iff.2 hri.1
  rcases hc with hc | hc
  · have := hin _ (getD_mem hne); omega
  · have := hin _ (getD_mem (show l.length - 1 < l.length by omega)); omega
theorem made_ok (h : ∀ p qs s1 s2 s3, WF ⟨qs, [⟨s1, [0, 2], 0, false⟩, ⟨s2, [2, 3], 0, false⟩, ⟨s3, [0], 0, false⟩]⟩ → qs.length = 4 → Ent (lockAt p ⟨qs, [⟨s1, [0, 2], 0, false⟩, ⟨s2, [2, 3], 0, false⟩, ⟨s3, [0], 0, false⟩]⟩ :: F) (K (.pointer (pt p)))) :
    Ent F (callC Try.prog 23 [] K) := by
  refine ent_mono ?_ fun w => nf23_ok
  unfold nf23
  refine new_ok (n := 4) ⟨by omega, by omega⟩ fun p S e0 q0 w0 => ?_
  obtain ⟨qs, es⟩ := S
  simp only at e0 q0
  subst e0
  have q0' : qs.length = 4 := by omega
  (repeat (first | refine st ?_ | refine And.intro rfl ?_ | refine sc (by omega) ?_ | refine sc (by simp only [List.length_map, List.length_append, List.length_cons, List.length_nil, List.length_set, List.length_replicate, List.length_singleton] at *; omega) ?_ | refine sc (And.intro (by omega) trivial) ?_ | refine sc (And.intro rfl (Nat.le_of_ble_eq_true rfl)) ?_ | refine sc (And.intro (by simp only [List.length_map, List.length_append, List.length_cons, List.length_nil, List.length_set, List.length_replicate, List.length_singleton] at *; omega) trivial) ?_ | refine sc (by decide) ?_ | refine sc (fun _ => trivial) ?_ | refine And.intro (fun _ => rfl) ?_ | refine sc (fun _ => And.intro (by omega) trivial) ?_))
  refine num_ok ?_
  (repeat (first | refine st ?_ | refine And.intro rfl ?_ | refine sc (by omega) ?_ | refine sc (by simp only [List.length_map, List.length_append, List.length_cons, List.length_nil, List.length_set, List.length_replicate, List.length_singleton] at *; omega) ?_ | refine sc (And.intro (by omega) trivial) ?_ | refine sc (And.intro rfl (Nat.le_of_ble_eq_true rfl)) ?_ | refine sc (And.intro (by simp only [List.length_map, List.length_append, List.length_cons, List.length_nil, List.length_set, List.length_replicate, List.length_singleton] at *; omega) trivial) ?_ | refine sc (by decide) ?_ | refine sc (fun _ => trivial) ?_ | refine And.intro (fun _ => rfl) ?_ | refine sc (fun _ => And.intro (by omega) trivial) ?_ | refine ct rfl ?_))
  intro l1
  refine ent_take (A := lockAt p ⟨qs, []⟩) (lay_well (l := [0, 2]) w0 (rises2 (by omega)) (fun x hx => ?_) (by simp) rfl fun S1 s1 f1 f2 f3 => ?_)
  · show 0 ≤ x ∧ x < (qs.length : Int)
    rw [q0']
    rcases List.mem_cons.1 hx with rfl | hx
    · omega
    · rw [List.mem_singleton.1 hx]; omega
  obtain ⟨qs1, es1⟩ := S1
  simp only [List.nil_append] at f1 f2
  subst f1
  refine num_ok ?_
  (repeat (first | refine st ?_ | refine And.intro rfl ?_ | refine sc (by omega) ?_ | refine sc (by simp only [List.length_map, List.length_append, List.length_cons, List.length_nil, List.length_set, List.length_replicate, List.length_singleton] at *; omega) ?_ | refine sc (And.intro (by omega) trivial) ?_ | refine sc (And.intro rfl (Nat.le_of_ble_eq_true rfl)) ?_ | refine sc (And.intro (by simp only [List.length_map, List.length_append, List.length_cons, List.length_nil, List.length_set, List.length_replicate, List.length_singleton] at *; omega) trivial) ?_ | refine sc (by decide) ?_ | refine sc (fun _ => trivial) ?_ | refine And.intro (fun _ => rfl) ?_ | refine sc (fun _ => And.intro (by omega) trivial) ?_ | refine ct rfl ?_))
  intro l2
  refine ent_take (A := lockAt p ⟨qs1, [⟨s1, [0, 2], 0, false⟩]⟩) (lay_well (l := [2, 3]) f3 (rises2 (by omega)) (fun x hx => ?_) (by simp) rfl fun S2 s2 g1 g2 g3 => ?_)
  · show 0 ≤ x ∧ x < (qs1.length : Int)
    rw [f2, q0']
    rcases List.mem_cons.1 hx with rfl | hx
    · omega
    · rw [List.mem_singleton.1 hx]; omega
  obtain ⟨qs2, es2⟩ := S2
  simp only [List.cons_append, List.nil_append] at g1 g2
  subst g1
  refine num_ok ?_
  (repeat (first | refine st ?_ | refine And.intro rfl ?_ | refine sc (by omega) ?_ | refine sc (by simp only [List.length_map, List.length_append, List.length_cons, List.length_nil, List.length_set, List.length_replicate, List.length_singleton] at *; omega) ?_ | refine sc (And.intro (by omega) trivial) ?_ | refine sc (And.intro rfl (Nat.le_of_ble_eq_true rfl)) ?_ | refine sc (And.intro (by simp only [List.length_map, List.length_append, List.length_cons, List.length_nil, List.length_set, List.length_replicate, List.length_singleton] at *; omega) trivial) ?_ | refine sc (by decide) ?_ | refine sc (fun _ => trivial) ?_ | refine And.intro (fun _ => rfl) ?_ | refine sc (fun _ => And.intro (by omega) trivial) ?_ | refine ct rfl ?_))
  intro l3
  refine ent_take (A := lockAt p ⟨qs2, [⟨s1, [0, 2], 0, false⟩, ⟨s2, [2, 3], 0, false⟩]⟩) (lay_well (l := [0]) g3 rises1 (fun x hx => ?_) (by simp) rfl fun S3 s3 k1 k2 k3 => ?_)
  · show 0 ≤ x ∧ x < (qs2.length : Int)
    rw [g2, f2, q0', List.mem_singleton.1 hx]; omega
  obtain ⟨qs3, es3⟩ := S3
  simp only [List.cons_append, List.nil_append] at k1 k2
  subst k1
  refine num_ok ?_
  (repeat (first | refine st ?_ | refine And.intro rfl ?_ | refine sc (by omega) ?_ | refine sc (by simp only [List.length_map, List.length_append, List.length_cons, List.length_nil, List.length_set, List.length_replicate, List.length_singleton] at *; omega) ?_ | refine sc (And.intro (by omega) trivial) ?_ | refine sc (And.intro rfl (Nat.le_of_ble_eq_true rfl)) ?_ | refine sc (And.intro (by simp only [List.length_map, List.length_append, List.length_cons, List.length_nil, List.length_set, List.length_replicate, List.length_singleton] at *; omega) trivial) ?_ | refine sc (by decide) ?_ | refine sc (fun _ => trivial) ?_ | refine And.intro (fun _ => rfl) ?_ | refine sc (fun _ => And.intro (by omega) trivial) ?_ | refine ct rfl ?_))
  exact inc (h p qs3 s1 s2 s3 k3 (by rw [k2, g2, f2, q0']))
theorem awake_ok (h : Ent F (K (.bool true))) : Ent F (callC Try.prog 8 [] K) := by
  refine ent_mono ?_ fun w => nf8_ok
  unfold nf8
  refine made_ok fun p qs s1 s2 s3 hw hq => ?_
  (repeat (first | refine st ?_ | refine And.intro rfl ?_ | refine sc (by omega) ?_ | refine sc (by simp only [List.length_map, List.length_append, List.length_cons, List.length_nil, List.length_set, List.length_replicate, List.length_singleton] at *; omega) ?_ | refine sc (And.intro (by omega) trivial) ?_ | refine sc (And.intro rfl (Nat.le_of_ble_eq_true rfl)) ?_ | refine sc (And.intro (by simp only [List.length_map, List.length_append, List.length_cons, List.length_nil, List.length_set, List.length_replicate, List.length_singleton] at *; omega) trivial) ?_ | refine sc (by decide) ?_ | refine sc (fun _ => trivial) ?_ | refine And.intro (fun _ => rfl) ?_ | refine sc (fun _ => And.intro (by omega) trivial) ?_))
  refine ready_ok hw ?_
  rw [show readyS [⟨s1, [0, 2], 0, false⟩, ⟨s2, [2, 3], 0, false⟩, ⟨s3, [0], 0, false⟩] 1 = true from rfl]
  (repeat (first | refine st ?_ | refine And.intro rfl ?_ | refine sc (by omega) ?_ | refine sc (by simp only [List.length_map, List.length_append, List.length_cons, List.length_nil, List.length_set, List.length_replicate, List.length_singleton] at *; omega) ?_ | refine sc (And.intro (by omega) trivial) ?_ | refine sc (And.intro rfl (Nat.le_of_ble_eq_true rfl)) ?_ | refine sc (And.intro (by simp only [List.length_map, List.length_append, List.length_cons, List.length_nil, List.length_set, List.length_replicate, List.length_singleton] at *; omega) trivial) ?_ | refine sc (by decide) ?_ | refine sc (fun _ => trivial) ?_ | refine And.intro (fun _ => rfl) ?_ | refine sc (fun _ => And.intro (by omega) trivial) ?_))
  refine ready_ok hw ?_
  rw [show readyS [⟨s1, [0, 2], 0, false⟩, ⟨s2, [2, 3], 0, false⟩, ⟨s3, [0], 0, false⟩] 2 = false from rfl]
  (repeat (first | refine st ?_ | refine And.intro rfl ?_ | refine sc (by omega) ?_ | refine sc (by simp only [List.length_map, List.length_append, List.length_cons, List.length_nil, List.length_set, List.length_replicate, List.length_singleton] at *; omega) ?_ | refine sc (And.intro (by omega) trivial) ?_ | refine sc (And.intro rfl (Nat.le_of_ble_eq_true rfl)) ?_ | refine sc (And.intro (by simp only [List.length_map, List.length_append, List.length_cons, List.length_nil, List.length_set, List.length_replicate, List.length_singleton] at *; omega) trivial) ?_ | refine sc (by decide) ?_ | refine sc (fun _ => trivial) ?_ | refine And.intro (fun _ => rfl) ?_ | refine sc (fun _ => And.intro (by omega) trivial) ?_))
  refine queue_ok hw (k := 2) (by show 2 < qs.length; omega) fun s4 => ?_
  rw [show stand [⟨s1, [0, 2], 0, false⟩, ⟨s2, [2, 3], 0, false⟩, ⟨s3, [0], 0, false⟩] ((2 : Nat) : Int) = [1, 2] from rfl]
  (repeat (first | refine st ?_ | refine And.intro rfl ?_ | refine sc (by omega) ?_ | refine sc (by simp only [List.length_map, List.length_append, List.length_cons, List.length_nil, List.length_set, List.length_replicate, List.length_singleton] at *; omega) ?_ | refine sc (And.intro (by omega) trivial) ?_ | refine sc (And.intro rfl (Nat.le_of_ble_eq_true rfl)) ?_ | refine sc (And.intro (by simp only [List.length_map, List.length_append, List.length_cons, List.length_nil, List.length_set, List.length_replicate, List.length_singleton] at *; omega) trivial) ?_ | refine sc (by decide) ?_ | refine sc (fun _ => trivial) ?_ | refine And.intro (fun _ => rfl) ?_ | refine sc (fun _ => And.intro (by omega) trivial) ?_))
  intro s5
  refine sameTickets_ok (l1 := [1, 2]) (l2 := [1, 2]) (by simp) rfl ?_
  (repeat (first | refine st ?_ | refine And.intro rfl ?_ | refine sc (by omega) ?_ | refine sc (by simp only [List.length_map, List.length_append, List.length_cons, List.length_nil, List.length_set, List.length_replicate, List.length_singleton] at *; omega) ?_ | refine sc (And.intro (by omega) trivial) ?_ | refine sc (And.intro rfl (Nat.le_of_ble_eq_true rfl)) ?_ | refine sc (And.intro (by simp only [List.length_map, List.length_append, List.length_cons, List.length_nil, List.length_set, List.length_replicate, List.length_singleton] at *; omega) trivial) ?_ | refine sc (by decide) ?_ | refine sc (fun _ => trivial) ?_ | refine And.intro (fun _ => rfl) ?_ | refine sc (fun _ => And.intro (by omega) trivial) ?_))
  refine ent_take (A := lockAt p ⟨qs, [⟨s1, [0, 2], 0, false⟩, ⟨s2, [2, 3], 0, false⟩, ⟨s3, [0], 0, false⟩]⟩) (take_ok hw ?_)
  have w1 := take_wf hw (t := 1)
  change WF ⟨qs, [⟨s1, [0, 2], 1, false⟩, ⟨s2, [2, 3], 0, false⟩, ⟨s3, [0], 0, false⟩]⟩ at w1
  change Ent (lockAt p ⟨qs, [⟨s1, [0, 2], 1, false⟩, ⟨s2, [2, 3], 0, false⟩, ⟨s3, [0], 0, false⟩]⟩ :: _) _
  rw [show takeB ⟨qs, [⟨s1, [0, 2], 0, false⟩, ⟨s2, [2, 3], 0, false⟩, ⟨s3, [0], 0, false⟩]⟩ 1 = 0 from rfl, show takeE ⟨qs, [⟨s1, [0, 2], 0, false⟩, ⟨s2, [2, 3], 0, false⟩, ⟨s3, [0], 0, false⟩]⟩ 1 = 0 from rfl]
  (repeat (first | refine st ?_ | refine And.intro rfl ?_ | refine sc (by omega) ?_ | refine sc (by simp only [List.length_map, List.length_append, List.length_cons, List.length_nil, List.length_set, List.length_replicate, List.length_singleton] at *; omega) ?_ | refine sc (And.intro (by omega) trivial) ?_ | refine sc (And.intro rfl (Nat.le_of_ble_eq_true rfl)) ?_ | refine sc (And.intro (by simp only [List.length_map, List.length_append, List.length_cons, List.length_nil, List.length_set, List.length_replicate, List.length_singleton] at *; omega) trivial) ?_ | refine sc (by decide) ?_ | refine sc (fun _ => trivial) ?_ | refine And.intro (fun _ => rfl) ?_ | refine sc (fun _ => And.intro (by omega) trivial) ?_))
  refine take_ok w1 ?_
  have w2 := take_wf w1 (t := 1)
  change WF ⟨qs, [⟨s1, [0, 2], 2, false⟩, ⟨s2, [2, 3], 0, false⟩, ⟨s3, [0], 0, false⟩]⟩ at w2
  change Ent (lockAt p ⟨qs, [⟨s1, [0, 2], 2, false⟩, ⟨s2, [2, 3], 0, false⟩, ⟨s3, [0], 0, false⟩]⟩ :: _) _
  rw [show takeB ⟨qs, [⟨s1, [0, 2], 1, false⟩, ⟨s2, [2, 3], 0, false⟩, ⟨s3, [0], 0, false⟩]⟩ 1 = 2 from rfl, show takeE ⟨qs, [⟨s1, [0, 2], 1, false⟩, ⟨s2, [2, 3], 0, false⟩, ⟨s3, [0], 0, false⟩]⟩ 1 = 0 from rfl]
  (repeat (first | refine st ?_ | refine And.intro rfl ?_ | refine sc (by omega) ?_ | refine sc (by simp only [List.length_map, List.length_append, List.length_cons, List.length_nil, List.length_set, List.length_replicate, List.length_singleton] at *; omega) ?_ | refine sc (And.intro (by omega) trivial) ?_ | refine sc (And.intro rfl (Nat.le_of_ble_eq_true rfl)) ?_ | refine sc (And.intro (by simp only [List.length_map, List.length_append, List.length_cons, List.length_nil, List.length_set, List.length_replicate, List.length_singleton] at *; omega) trivial) ?_ | refine sc (by decide) ?_ | refine sc (fun _ => trivial) ?_ | refine And.intro (fun _ => rfl) ?_ | refine sc (fun _ => And.intro (by omega) trivial) ?_))
  refine take_ok w2 ?_
  change Ent (lockAt p ⟨qs, [⟨s1, [0, 2], 2, false⟩, ⟨s2, [2, 3], 0, false⟩, ⟨s3, [0], 0, false⟩]⟩ :: _) _
  rw [show takeB ⟨qs, [⟨s1, [0, 2], 2, false⟩, ⟨s2, [2, 3], 0, false⟩, ⟨s3, [0], 0, false⟩]⟩ 1 = 0 from rfl, show takeE ⟨qs, [⟨s1, [0, 2], 2, false⟩, ⟨s2, [2, 3], 0, false⟩, ⟨s3, [0], 0, false⟩]⟩ 1 = 180 from rfl]
  (repeat (first | refine st ?_ | refine And.intro rfl ?_ | refine sc (by omega) ?_ | refine sc (by simp only [List.length_map, List.length_append, List.length_cons, List.length_nil, List.length_set, List.length_replicate, List.length_singleton] at *; omega) ?_ | refine sc (And.intro (by omega) trivial) ?_ | refine sc (And.intro rfl (Nat.le_of_ble_eq_true rfl)) ?_ | refine sc (And.intro (by simp only [List.length_map, List.length_append, List.length_cons, List.length_nil, List.length_set, List.length_replicate, List.length_singleton] at *; omega) trivial) ?_ | refine sc (by decide) ?_ | refine sc (fun _ => trivial) ?_ | refine And.intro (fun _ => rfl) ?_ | refine sc (fun _ => And.intro (by omega) trivial) ?_))
  refine take_ok w2 ?_
  change Ent (lockAt p ⟨qs, [⟨s1, [0, 2], 2, false⟩, ⟨s2, [2, 3], 0, false⟩, ⟨s3, [0], 0, false⟩]⟩ :: _) _
  rw [show takeB ⟨qs, [⟨s1, [0, 2], 2, false⟩, ⟨s2, [2, 3], 0, false⟩, ⟨s3, [0], 0, false⟩]⟩ 2 = 0 from rfl, show takeE ⟨qs, [⟨s1, [0, 2], 2, false⟩, ⟨s2, [2, 3], 0, false⟩, ⟨s3, [0], 0, false⟩]⟩ 2 = 130 from rfl]
  (repeat (first | refine st ?_ | refine And.intro rfl ?_ | refine sc (by omega) ?_ | refine sc (by simp only [List.length_map, List.length_append, List.length_cons, List.length_nil, List.length_set, List.length_replicate, List.length_singleton] at *; omega) ?_ | refine sc (And.intro (by omega) trivial) ?_ | refine sc (And.intro rfl (Nat.le_of_ble_eq_true rfl)) ?_ | refine sc (And.intro (by simp only [List.length_map, List.length_append, List.length_cons, List.length_nil, List.length_set, List.length_replicate, List.length_singleton] at *; omega) trivial) ?_ | refine sc (by decide) ?_ | refine sc (fun _ => trivial) ?_ | refine And.intro (fun _ => rfl) ?_ | refine sc (fun _ => And.intro (by omega) trivial) ?_))
  refine drop_ok w2 (fun hc => by cases hc) fun e he S' hes hql hw' => ?_
  have he' : e = ⟨s1, [0, 2], 2, false⟩ := (Option.some.inj he).symm
  subst he'
  obtain ⟨qs', es'⟩ := S'
  simp only at hes
  change es' = [⟨s1, [0, 2], 2, true⟩, ⟨s2, [2, 3], 0, false⟩, ⟨s3, [0], 0, false⟩] at hes
  subst hes
  (repeat (first | refine st ?_ | refine And.intro rfl ?_ | refine sc (by omega) ?_ | refine sc (by simp only [List.length_map, List.length_append, List.length_cons, List.length_nil, List.length_set, List.length_replicate, List.length_singleton] at *; omega) ?_ | refine sc (And.intro (by omega) trivial) ?_ | refine sc (And.intro rfl (Nat.le_of_ble_eq_true rfl)) ?_ | refine sc (And.intro (by simp only [List.length_map, List.length_append, List.length_cons, List.length_nil, List.length_set, List.length_replicate, List.length_singleton] at *; omega) trivial) ?_ | refine sc (by decide) ?_ | refine sc (fun _ => trivial) ?_ | refine And.intro (fun _ => rfl) ?_ | refine sc (fun _ => And.intro (by omega) trivial) ?_ | refine ct rfl ?_))
  refine num_ok ?_
  (repeat (first | refine st ?_ | refine And.intro rfl ?_ | refine sc (by omega) ?_ | refine sc (by simp only [List.length_map, List.length_append, List.length_cons, List.length_nil, List.length_set, List.length_replicate, List.length_singleton] at *; omega) ?_ | refine sc (And.intro (by omega) trivial) ?_ | refine sc (And.intro rfl (Nat.le_of_ble_eq_true rfl)) ?_ | refine sc (And.intro (by simp only [List.length_map, List.length_append, List.length_cons, List.length_nil, List.length_set, List.length_replicate, List.length_singleton] at *; omega) trivial) ?_ | refine sc (by decide) ?_ | refine sc (fun _ => trivial) ?_ | refine And.intro (fun _ => rfl) ?_ | refine sc (fun _ => And.intro (by omega) trivial) ?_ | refine ct rfl ?_))
  refine num_ok ?_
  (repeat (first | refine st ?_ | refine And.intro rfl ?_ | refine sc (by omega) ?_ | refine sc (by simp only [List.length_map, List.length_append, List.length_cons, List.length_nil, List.length_set, List.length_replicate, List.length_singleton] at *; omega) ?_ | refine sc (And.intro (by omega) trivial) ?_ | refine sc (And.intro rfl (Nat.le_of_ble_eq_true rfl)) ?_ | refine sc (And.intro (by simp only [List.length_map, List.length_append, List.length_cons, List.length_nil, List.length_set, List.length_replicate, List.length_singleton] at *; omega) trivial) ?_ | refine sc (by decide) ?_ | refine sc (fun _ => trivial) ?_ | refine And.intro (fun _ => rfl) ?_ | refine sc (fun _ => And.intro (by omega) trivial) ?_ | refine ct rfl ?_))
  refine num_ok ?_
  (repeat (first | refine st ?_ | refine And.intro rfl ?_ | refine sc (by omega) ?_ | refine sc (by simp only [List.length_map, List.length_append, List.length_cons, List.length_nil, List.length_set, List.length_replicate, List.length_singleton] at *; omega) ?_ | refine sc (And.intro (by omega) trivial) ?_ | refine sc (And.intro rfl (Nat.le_of_ble_eq_true rfl)) ?_ | refine sc (And.intro (by simp only [List.length_map, List.length_append, List.length_cons, List.length_nil, List.length_set, List.length_replicate, List.length_singleton] at *; omega) trivial) ?_ | refine sc (by decide) ?_ | refine sc (fun _ => trivial) ?_ | refine And.intro (fun _ => rfl) ?_ | refine sc (fun _ => And.intro (by omega) trivial) ?_ | refine ct rfl ?_))
  refine num_ok ?_
  (repeat (first | refine st ?_ | refine And.intro rfl ?_ | refine sc (by omega) ?_ | refine sc (by simp only [List.length_map, List.length_append, List.length_cons, List.length_nil, List.length_set, List.length_replicate, List.length_singleton] at *; omega) ?_ | refine sc (And.intro (by omega) trivial) ?_ | refine sc (And.intro rfl (Nat.le_of_ble_eq_true rfl)) ?_ | refine sc (And.intro (by simp only [List.length_map, List.length_append, List.length_cons, List.length_nil, List.length_set, List.length_replicate, List.length_singleton] at *; omega) trivial) ?_ | refine sc (by decide) ?_ | refine sc (fun _ => trivial) ?_ | refine And.intro (fun _ => rfl) ?_ | refine sc (fun _ => And.intro (by omega) trivial) ?_ | refine ct rfl ?_))
  refine num_ok ?_
  (repeat (first | refine st ?_ | refine And.intro rfl ?_ | refine sc (by omega) ?_ | refine sc (by simp only [List.length_map, List.length_append, List.length_cons, List.length_nil, List.length_set, List.length_replicate, List.length_singleton] at *; omega) ?_ | refine sc (And.intro (by omega) trivial) ?_ | refine sc (And.intro rfl (Nat.le_of_ble_eq_true rfl)) ?_ | refine sc (And.intro (by simp only [List.length_map, List.length_append, List.length_cons, List.length_nil, List.length_set, List.length_replicate, List.length_singleton] at *; omega) trivial) ?_ | refine sc (by decide) ?_ | refine sc (fun _ => trivial) ?_ | refine And.intro (fun _ => rfl) ?_ | refine sc (fun _ => And.intro (by omega) trivial) ?_ | refine ct rfl ?_))
  refine ready_ok hw' ?_
  rw [show readyS [⟨s1, [0, 2], 2, true⟩, ⟨s2, [2, 3], 0, false⟩, ⟨s3, [0], 0, false⟩] 2 = true from rfl]
  (repeat (first | refine st ?_ | refine And.intro rfl ?_ | refine sc (by omega) ?_ | refine sc (by simp only [List.length_map, List.length_append, List.length_cons, List.length_nil, List.length_set, List.length_replicate, List.length_singleton] at *; omega) ?_ | refine sc (And.intro (by omega) trivial) ?_ | refine sc (And.intro rfl (Nat.le_of_ble_eq_true rfl)) ?_ | refine sc (And.intro (by simp only [List.length_map, List.length_append, List.length_cons, List.length_nil, List.length_set, List.length_replicate, List.length_singleton] at *; omega) trivial) ?_ | refine sc (by decide) ?_ | refine sc (fun _ => trivial) ?_ | refine And.intro (fun _ => rfl) ?_ | refine sc (fun _ => And.intro (by omega) trivial) ?_ | refine ct rfl ?_))
  refine ready_ok hw' ?_
  rw [show readyS [⟨s1, [0, 2], 2, true⟩, ⟨s2, [2, 3], 0, false⟩, ⟨s3, [0], 0, false⟩] 3 = true from rfl]
  (repeat (first | refine st ?_ | refine And.intro rfl ?_ | refine sc (by omega) ?_ | refine sc (by simp only [List.length_map, List.length_append, List.length_cons, List.length_nil, List.length_set, List.length_replicate, List.length_singleton] at *; omega) ?_ | refine sc (And.intro (by omega) trivial) ?_ | refine sc (And.intro rfl (Nat.le_of_ble_eq_true rfl)) ?_ | refine sc (And.intro (by simp only [List.length_map, List.length_append, List.length_cons, List.length_nil, List.length_set, List.length_replicate, List.length_singleton] at *; omega) trivial) ?_ | refine sc (by decide) ?_ | refine sc (fun _ => trivial) ?_ | refine And.intro (fun _ => rfl) ?_ | refine sc (fun _ => And.intro (by omega) trivial) ?_ | refine ct rfl ?_))
  exact inc h
end
end Go.Proofs.Ytipjamgjgijeeaa
