/- LockHands. -/
import Derived.Test.YtipjamgjgijeeaaLh
namespace Go.Proofs.Ytipjamgjgijeeaa
set_option linter.unusedSimpArgs false
set_option linter.unusedVariables false
open Go.Dn
set_option linter.unusedSectionVars false
set_option synthInstance.maxSize 10000
set_option synthInstance.maxHeartbeats 400000
set_option maxHeartbeats 2000000
variable [sd : Side]
section
variable {F : List HProp} {K : Value → W}
abbrev DL := Sl × Sl × List Int
instance : Inhabited DL := ⟨(Sl.nil, Sl.nil, [])⟩
def dQ1 (x : DL) : HProp := sl (cInt .u64) 30 x.1 x.2.2
def dQ2 (x : DL) : HProp := sl (cInt .u64) 30 x.2.1 x.2.2
def dH1 (x : DL) : HProp := sl (cInt .i64) 3 x.1 x.2.2
def dH2 (x : DL) : HProp := sl (cInt .i64) 3 x.2.1 x.2.2
theorem take_ready {S : LS} {t : Int} (h : readyS S.es t = true) : takeE S t = 0 := by
  obtain ⟨e, he, hl, _⟩ := ready_inv h
  unfold takeE
  rw [he]
  simp only
  unfold nextOf
  rw [if_pos hl]
  simp only
  rw [if_pos h]
theorem takeS_len {S : LS} {t : Int} : (takeS S t).es.length = S.es.length ∧ (takeS S t).qs.length = S.qs.length := by
  unfold takeS
  split
  · exact ⟨by simp, rfl⟩
  · exact ⟨rfl, rfl⟩
theorem kept_ok {p r N : Nat} {S : LS} {wq wh : Sl} {dq dh : List DL} (hw : WF S) (hr : S.qs.length = r) (hN : S.es.length = N) (q1 : r ≤ dq.length) (q2 : ∀ i, i < r → (dq.getD i default).2.2 = stand S.es i) (h1 : N ≤ dh.length) (h2 : ∀ i, i < N → (dh.getD i default).2.2 = heldOf S.es ((i : Int) + 1)) (h : Ent F (K (.bool true))) :
    Ent (lockAt p S :: sl cSl 22 wq (dq.map (·.2.1)) :: bg dQ2 dq :: sl cSl 37 wh (dh.map (·.2.1)) :: bg dH2 dh :: F) (callC Try.prog 17 [.pointer (pt p), .int .i64 r, .int .i64 N, sv wq, sv wh] K) := by
  refine ent_mono ?_ fun w => nf17_ok
  unfold nf17
  have hn2 := hw.n2
  have hlen := hw.len
  refine ent_loop0 (γ := Nat) (fun i => [.int .i64 i]) (fun i => i ≤ r) (fun i => r - i) 0 rfl (by omega) ?_
  intro i hi K1 j hK
  simp only [List.headD_cons] at *
  refine cs (fun g1 => ?_) (fun g1 => ?_)
  · have hil : i < r := by omega
    have m1 : (dq.map (·.2.1)).getD i default = (dq.getD i default).2.1 := getD_map' (by omega)
    haveI r1 : ∀ M, Rs (bg dQ2 dq :: M) (dq.getD i default).2.1 (cInt .u64) (stand S.es i) := fun M => q2 i hil ▸ rs_bg (f := dQ2) (l := dq) (i := i) (by omega) (fun M => (inferInstance : Rs (sl (cInt .u64) 30 (dq.getD i default).2.1 (dq.getD i default).2.2 :: M) _ _ _)) M
    have hsl := stand_len (es := S.es) (b := (i : Int))
    (repeat (first | refine st ?_ | refine And.intro rfl ?_ | refine sc (by omega) ?_ | refine sc (by simp only [List.length_map, List.length_append, List.length_cons, List.length_nil, List.length_set, List.length_replicate, List.length_singleton] at *; omega) ?_ | refine sc (And.intro (by omega) trivial) ?_ | refine sc (And.intro rfl (Nat.le_of_ble_eq_true rfl)) ?_ | refine sc (And.intro (by simp only [List.length_map, List.length_append, List.length_cons, List.length_nil, List.length_set, List.length_replicate, List.length_singleton] at *; omega) trivial) ?_ | refine sc (by decide) ?_ | refine sc (fun _ => trivial) ?_ | refine And.intro (fun _ => rfl) ?_ | refine sc (fun _ => And.intro (by omega) trivial) ?_))
    rw [m1]
    refine queue_ok hw (by omega) fun s1 => ?_
    (repeat (first | refine st ?_ | refine And.intro rfl ?_ | refine sc (by omega) ?_ | refine sc (by simp only [List.length_map, List.length_append, List.length_cons, List.length_nil, List.length_set, List.length_replicate, List.length_singleton] at *; omega) ?_ | refine sc (And.intro (by omega) trivial) ?_ | refine sc (And.intro rfl (Nat.le_of_ble_eq_true rfl)) ?_ | refine sc (And.intro (by simp only [List.length_map, List.length_append, List.length_cons, List.length_nil, List.length_set, List.length_replicate, List.length_singleton] at *; omega) trivial) ?_ | refine sc (by decide) ?_ | refine sc (fun _ => trivial) ?_ | refine And.intro (fun _ => rfl) ?_ | refine sc (fun _ => And.intro (by omega) trivial) ?_ | refine And.intro (by rw [m1]) ?_))
    refine sameTickets_ok (l1 := stand S.es i) (l2 := stand S.es i) (by omega) rfl ?_
    (repeat (first | refine st ?_ | refine And.intro rfl ?_ | refine sc (by omega) ?_ | refine sc (by simp only [List.length_map, List.length_append, List.length_cons, List.length_nil, List.length_set, List.length_replicate, List.length_singleton] at *; omega) ?_ | refine sc (And.intro (by omega) trivial) ?_ | refine sc (And.intro rfl (Nat.le_of_ble_eq_true rfl)) ?_ | refine sc (And.intro (by simp only [List.length_map, List.length_append, List.length_cons, List.length_nil, List.length_set, List.length_replicate, List.length_singleton] at *; omega) trivial) ?_ | refine sc (by decide) ?_ | refine sc (fun _ => trivial) ?_ | refine And.intro (fun _ => rfl) ?_ | refine sc (fun _ => And.intro (by omega) trivial) ?_))
    exact ent_drop (hK (i + 1) (by omega) (by omega))
  · clear hK
    (repeat (first | refine st ?_ | refine And.intro rfl ?_ | refine sc (by omega) ?_ | refine sc (by simp only [List.length_map, List.length_append, List.length_cons, List.length_nil, List.length_set, List.length_replicate, List.length_singleton] at *; omega) ?_ | refine sc (And.intro (by omega) trivial) ?_ | refine sc (And.intro rfl (Nat.le_of_ble_eq_true rfl)) ?_ | refine sc (And.intro (by simp only [List.length_map, List.length_append, List.length_cons, List.length_nil, List.length_set, List.length_replicate, List.length_singleton] at *; omega) trivial) ?_ | refine sc (by decide) ?_ | refine sc (fun _ => trivial) ?_ | refine And.intro (fun _ => rfl) ?_ | refine sc (fun _ => And.intro (by omega) trivial) ?_))
    unfold nf17_1
    refine ent_loop0 (γ := Nat) (fun i => [.int .i64 i]) (fun i => i ≤ N) (fun i => N - i) 0 rfl (by omega) ?_
    intro i hi K1 j hK
    simp only [List.headD_cons] at *
    refine cs (fun g1 => ?_) (fun g1 => ?_)
    · have hil : i < N := by omega
      have m1 : (dh.map (·.2.1)).getD i default = (dh.getD i default).2.1 := getD_map' (by omega)
      haveI r1 : ∀ M, Rs (bg dH2 dh :: M) (dh.getD i default).2.1 (cInt .i64) (heldOf S.es ((i : Int) + 1)) := fun M => h2 i hil ▸ rs_bg (f := dH2) (l := dh) (i := i) (by omega) (fun M => (inferInstance : Rs (sl (cInt .i64) 3 (dh.getD i default).2.1 (dh.getD i default).2.2 :: M) _ _ _)) M
      have hhl := heldOf_len hw (t := (i : Int) + 1)
      (repeat (first | refine st ?_ | refine And.intro rfl ?_ | refine sc (by omega) ?_ | refine sc (by simp only [List.length_map, List.length_append, List.length_cons, List.length_nil, List.length_set, List.length_replicate, List.length_singleton] at *; omega) ?_ | refine sc (And.intro (by omega) trivial) ?_ | refine sc (And.intro rfl (Nat.le_of_ble_eq_true rfl)) ?_ | refine sc (And.intro (by simp only [List.length_map, List.length_append, List.length_cons, List.length_nil, List.length_set, List.length_replicate, List.length_singleton] at *; omega) trivial) ?_ | refine sc (by decide) ?_ | refine sc (fun _ => trivial) ?_ | refine And.intro (fun _ => rfl) ?_ | refine sc (fun _ => And.intro (by omega) trivial) ?_))
      rw [m1]
      refine held_ok hw fun s1 => ?_
      (repeat (first | refine st ?_ | refine And.intro rfl ?_ | refine sc (by omega) ?_ | refine sc (by simp only [List.length_map, List.length_append, List.length_cons, List.length_nil, List.length_set, List.length_replicate, List.length_singleton] at *; omega) ?_ | refine sc (And.intro (by omega) trivial) ?_ | refine sc (And.intro rfl (Nat.le_of_ble_eq_true rfl)) ?_ | refine sc (And.intro (by simp only [List.length_map, List.length_append, List.length_cons, List.length_nil, List.length_set, List.length_replicate, List.length_singleton] at *; omega) trivial) ?_ | refine sc (by decide) ?_ | refine sc (fun _ => trivial) ?_ | refine And.intro (fun _ => rfl) ?_ | refine sc (fun _ => And.intro (by omega) trivial) ?_ | refine And.intro (by rw [m1]) ?_))
      refine sameInts_ok (l1 := heldOf S.es ((i : Int) + 1)) (l2 := heldOf S.es ((i : Int) + 1)) (by omega) rfl ?_
      (repeat (first | refine st ?_ | refine And.intro rfl ?_ | refine sc (by omega) ?_ | refine sc (by simp only [List.length_map, List.length_append, List.length_cons, List.length_nil, List.length_set, List.length_replicate, List.length_singleton] at *; omega) ?_ | refine sc (And.intro (by omega) trivial) ?_ | refine sc (And.intro rfl (Nat.le_of_ble_eq_true rfl)) ?_ | refine sc (And.intro (by simp only [List.length_map, List.length_append, List.length_cons, List.length_nil, List.length_set, List.length_replicate, List.length_singleton] at *; omega) trivial) ?_ | refine sc (by decide) ?_ | refine sc (fun _ => trivial) ?_ | refine And.intro (fun _ => rfl) ?_ | refine sc (fun _ => And.intro (by omega) trivial) ?_))
      exact ent_drop (hK (i + 1) (by omega) (by omega))
    · (repeat (first | refine st ?_ | refine And.intro rfl ?_ | refine sc (by omega) ?_ | refine sc (by simp only [List.length_map, List.length_append, List.length_cons, List.length_nil, List.length_set, List.length_replicate, List.length_singleton] at *; omega) ?_ | refine sc (And.intro (by omega) trivial) ?_ | refine sc (And.intro rfl (Nat.le_of_ble_eq_true rfl)) ?_ | refine sc (And.intro (by simp only [List.length_map, List.length_append, List.length_cons, List.length_nil, List.length_set, List.length_replicate, List.length_singleton] at *; omega) trivial) ?_ | refine sc (by decide) ?_ | refine sc (fun _ => trivial) ?_ | refine And.intro (fun _ => rfl) ?_ | refine sc (fun _ => And.intro (by omega) trivial) ?_))
      exact inc h
structure DI (S : LS) (r N a b : Nat) (dq dh : List DL) : Prop where
  ql : dq.length = a
  hl : dh.length = b
  q : ∀ i, i < dq.length → (dq.getD i default).2.2 = stand S.es ((i % r : Nat) : Int)
  h : ∀ i, i < dh.length → (dh.getD i default).2.2 = heldOf S.es (((i % N : Nat) : Int) + 1)
theorem hands_ok {p r N : Nat} {S : LS} {w : Sl} {ws : List (Sl × List Int)} (hw : WF S) (hr : S.qs.length = r) (hN : S.es.length = N) (hwl : ws.length = N) (h : Ent F (K (.bool true))) :
    Ent (lockAt p S :: sl cSl 37 w (ws.map (·.1)) :: F) (nf3_6 K (.int .i64 r) (.pointer (pt p)) (sv w)) := by
  unfold nf3_6
  have hn1 := hw.n1
  have hn2 := hw.n2
  have hlen := hw.len
  refine ent_nil cSl 22 (ent_nil cSl 22 (ent_nil cSl 37 (ent_nil cSl 37 (bg_nil dQ1 (bg_nil dQ2 (bg_nil dH1 (bg_nil dH2 ?_)))))))
  refine inc (M := lockAt p S :: sl cSl 22 Sl.nil [] :: sl cSl 22 Sl.nil [] :: bg dQ1 [] :: bg dQ2 [] :: sl cSl 37 Sl.nil [] :: sl cSl 37 Sl.nil [] :: bg dH1 [] :: bg dH2 [] :: sl cSl 37 w (ws.map (·.1)) :: F) ?_
  refine ent_loop (γ := Sl × Sl × Sl × Sl × Nat × List DL × List DL) (fun t => [sv t.1, sv t.2.1, sv t.2.2.1, sv t.2.2.2.1, .int .i64 t.2.2.2.2.1])
    (fun t => lockAt p S :: sl cSl 22 t.1 (t.2.2.2.2.2.1.map (·.1)) :: sl cSl 22 t.2.2.1 (t.2.2.2.2.2.1.map (·.2.1)) :: bg dQ1 t.2.2.2.2.2.1 :: bg dQ2 t.2.2.2.2.2.1 :: sl cSl 37 t.2.1 (t.2.2.2.2.2.2.map (·.1)) :: sl cSl 37 t.2.2.2.1 (t.2.2.2.2.2.2.map (·.2.1)) :: bg dH1 t.2.2.2.2.2.2 :: bg dH2 t.2.2.2.2.2.2 :: sl cSl 37 w (ws.map (·.1)) :: F)
    (fun t => t.2.2.2.2.1 ≤ 2 ∧ DI S r N (t.2.2.2.2.1 * r) (t.2.2.2.2.1 * N) t.2.2.2.2.2.1 t.2.2.2.2.2.2) (fun t => 2 - t.2.2.2.2.1) (Sl.nil, Sl.nil, Sl.nil, Sl.nil, 0, [], []) rfl ⟨by simp, by simp, by simp, fun i hi => absurd hi (by simp), fun i hi => absurd hi (by simp)⟩ ⟨fun _ hs => hs⟩ ?_
  intro ⟨q, hd, wq, wh, turn, dq, dh⟩ ⟨ht, hD⟩ K1 j hK
  simp only [List.headD_cons, List.tail_cons] at *
  have b1 : turn * r ≤ 2 * 64 := Nat.mul_le_mul ht (by omega)
  have b2 : turn * N ≤ 2 * 100 := Nat.mul_le_mul ht (by omega)
  refine cs (fun g1 => ?_) (fun g1 => ?_)
  · (repeat (first | refine st ?_ | refine And.intro rfl ?_ | refine sc (by omega) ?_ | refine sc (by simp only [List.length_map, List.length_append, List.length_cons, List.length_nil, List.length_set, List.length_replicate, List.length_singleton] at *; omega) ?_ | refine sc (And.intro (by omega) trivial) ?_ | refine sc (And.intro rfl (Nat.le_of_ble_eq_true rfl)) ?_ | refine sc (And.intro (by simp only [List.length_map, List.length_append, List.length_cons, List.length_nil, List.length_set, List.length_replicate, List.length_singleton] at *; omega) trivial) ?_ | refine sc (by decide) ?_ | refine sc (fun _ => trivial) ?_ | refine And.intro (fun _ => rfl) ?_ | refine sc (fun _ => And.intro (by omega) trivial) ?_))
    unfold nf3_3
    refine ent_loop (γ := Sl × Sl × Nat × List DL) (fun t => [sv t.1, sv t.2.1, .int .i64 t.2.2.1])
      (fun t => lockAt p S :: sl cSl 22 t.1 (t.2.2.2.map (·.1)) :: sl cSl 22 t.2.1 (t.2.2.2.map (·.2.1)) :: bg dQ1 t.2.2.2 :: bg dQ2 t.2.2.2 :: sl cSl 37 hd (dh.map (·.1)) :: sl cSl 37 wh (dh.map (·.2.1)) :: bg dH1 dh :: bg dH2 dh :: sl cSl 37 w (ws.map (·.1)) :: F)
      (fun t => t.2.2.1 ≤ r ∧ DI S r N (turn * r + t.2.2.1) (turn * N) t.2.2.2 dh) (fun t => r - t.2.2.1) (q, wq, 0, dq) rfl ⟨by simp, by simpa using hD⟩ ⟨fun _ hs => hs⟩ ?_
    intro ⟨q, wq, b, dq⟩ ⟨hb, hD⟩ K2 j2 hK2
    simp only [List.headD_cons, List.tail_cons] at *
    have dl := hD.ql
    refine cs (fun g2 => ?_) (fun g2 => ?_)
    · have hbr : b < r := by omega
      have hsl := stand_len (es := S.es) (b := (b : Int))
      (repeat (first | refine st ?_ | refine And.intro rfl ?_ | refine sc (by omega) ?_ | refine sc (by simp only [List.length_map, List.length_append, List.length_cons, List.length_nil, List.length_set, List.length_replicate, List.length_singleton] at *; omega) ?_ | refine sc (And.intro (by omega) trivial) ?_ | refine sc (And.intro rfl (Nat.le_of_ble_eq_true rfl)) ?_ | refine sc (And.intro (by simp only [List.length_map, List.length_append, List.length_cons, List.length_nil, List.length_set, List.length_replicate, List.length_singleton] at *; omega) trivial) ?_ | refine sc (by decide) ?_ | refine sc (fun _ => trivial) ?_ | refine And.intro (fun _ => rfl) ?_ | refine sc (fun _ => And.intro (by omega) trivial) ?_))
      refine queue_ok hw (by omega) fun s1 => ?_
      (repeat (first | refine st ?_ | refine And.intro rfl ?_ | refine sc (by omega) ?_ | refine sc (by simp only [List.length_map, List.length_append, List.length_cons, List.length_nil, List.length_set, List.length_replicate, List.length_singleton] at *; omega) ?_ | refine sc (And.intro (by omega) trivial) ?_ | refine sc (And.intro rfl (Nat.le_of_ble_eq_true rfl)) ?_ | refine sc (And.intro (by simp only [List.length_map, List.length_append, List.length_cons, List.length_nil, List.length_set, List.length_replicate, List.length_singleton] at *; omega) trivial) ?_ | refine sc (by decide) ?_ | refine sc (fun _ => trivial) ?_ | refine And.intro (fun _ => rfl) ?_ | refine sc (fun _ => And.intro (by omega) trivial) ?_))
      intro s2
      (repeat (first | refine st ?_ | refine And.intro rfl ?_ | refine sc (by omega) ?_ | refine sc (by simp only [List.length_map, List.length_append, List.length_cons, List.length_nil, List.length_set, List.length_replicate, List.length_singleton] at *; omega) ?_ | refine sc (And.intro (by omega) trivial) ?_ | refine sc (And.intro rfl (Nat.le_of_ble_eq_true rfl)) ?_ | refine sc (And.intro (by simp only [List.length_map, List.length_append, List.length_cons, List.length_nil, List.length_set, List.length_replicate, List.length_singleton] at *; omega) trivial) ?_ | refine sc (by decide) ?_ | refine sc (fun _ => trivial) ?_ | refine And.intro (fun _ => rfl) ?_ | refine sc (fun _ => And.intro (by omega) trivial) ?_))
      intro s3
      (repeat (first | refine st ?_ | refine And.intro rfl ?_ | refine sc (by omega) ?_ | refine sc (by simp only [List.length_map, List.length_append, List.length_cons, List.length_nil, List.length_set, List.length_replicate, List.length_singleton] at *; omega) ?_ | refine sc (And.intro (by omega) trivial) ?_ | refine sc (And.intro rfl (Nat.le_of_ble_eq_true rfl)) ?_ | refine sc (And.intro (by simp only [List.length_map, List.length_append, List.length_cons, List.length_nil, List.length_set, List.length_replicate, List.length_singleton] at *; omega) trivial) ?_ | refine sc (by decide) ?_ | refine sc (fun _ => trivial) ?_ | refine And.intro (fun _ => rfl) ?_ | refine sc (fun _ => And.intro (by omega) trivial) ?_))
      intro s4
      (repeat (first | refine st ?_ | refine And.intro rfl ?_ | refine sc (by omega) ?_ | refine sc (by simp only [List.length_map, List.length_append, List.length_cons, List.length_nil, List.length_set, List.length_replicate, List.length_singleton] at *; omega) ?_ | refine sc (And.intro (by omega) trivial) ?_ | refine sc (And.intro rfl (Nat.le_of_ble_eq_true rfl)) ?_ | refine sc (And.intro (by simp only [List.length_map, List.length_append, List.length_cons, List.length_nil, List.length_set, List.length_replicate, List.length_singleton] at *; omega) trivial) ?_ | refine sc (by decide) ?_ | refine sc (fun _ => trivial) ?_ | refine And.intro (fun _ => rfl) ?_ | refine sc (fun _ => And.intro (by omega) trivial) ?_))
      intro s5
      rw [List.nil_append]
      (repeat (first | refine st ?_ | refine And.intro rfl ?_ | refine sc (by omega) ?_ | refine sc (by simp only [List.length_map, List.length_append, List.length_cons, List.length_nil, List.length_set, List.length_replicate, List.length_singleton] at *; omega) ?_ | refine sc (And.intro (by omega) trivial) ?_ | refine sc (And.intro rfl (Nat.le_of_ble_eq_true rfl)) ?_ | refine sc (And.intro (by simp only [List.length_map, List.length_append, List.length_cons, List.length_nil, List.length_set, List.length_replicate, List.length_singleton] at *; omega) trivial) ?_ | refine sc (by decide) ?_ | refine sc (fun _ => trivial) ?_ | refine And.intro (fun _ => rfl) ?_ | refine sc (fun _ => And.intro (by omega) trivial) ?_))
      intro s6
      (repeat (first | refine st ?_ | refine And.intro rfl ?_ | refine sc (by omega) ?_ | refine sc (by simp only [List.length_map, List.length_append, List.length_cons, List.length_nil, List.length_set, List.length_replicate, List.length_singleton] at *; omega) ?_ | refine sc (And.intro (by omega) trivial) ?_ | refine sc (And.intro rfl (Nat.le_of_ble_eq_true rfl)) ?_ | refine sc (And.intro (by simp only [List.length_map, List.length_append, List.length_cons, List.length_nil, List.length_set, List.length_replicate, List.length_singleton] at *; omega) trivial) ?_ | refine sc (by decide) ?_ | refine sc (fun _ => trivial) ?_ | refine And.intro (fun _ => rfl) ?_ | refine sc (fun _ => And.intro (by omega) trivial) ?_))
      intro s7
      (repeat (first | refine st ?_ | refine And.intro rfl ?_ | refine sc (by omega) ?_ | refine sc (by simp only [List.length_map, List.length_append, List.length_cons, List.length_nil, List.length_set, List.length_replicate, List.length_singleton] at *; omega) ?_ | refine sc (And.intro (by omega) trivial) ?_ | refine sc (And.intro rfl (Nat.le_of_ble_eq_true rfl)) ?_ | refine sc (And.intro (by simp only [List.length_map, List.length_append, List.length_cons, List.length_nil, List.length_set, List.length_replicate, List.length_singleton] at *; omega) trivial) ?_ | refine sc (by decide) ?_ | refine sc (fun _ => trivial) ?_ | refine And.intro (fun _ => rfl) ?_ | refine sc (fun _ => And.intro (by omega) trivial) ?_))
      refine ent_take (A := bg dQ1 dq) (ent_take (A := sl (cInt .u64) 30 s1 (stand S.es b)) (ent_take (A := bg dQ1 dq) (bg_snoc (f := dQ1) (x := (s1, s5, stand S.es b)) ?_)))
      refine ent_take (A := bg dQ2 dq) (ent_take (A := sl (cInt .u64) 30 s5 (stand S.es b)) (ent_take (A := bg dQ2 dq) (bg_snoc (f := dQ2) (x := (s1, s5, stand S.es b)) ?_)))
      have h9 := hK2 (s3, s7, b + 1, dq ++ [(s1, s5, stand S.es b)]) ⟨by show b + 1 ≤ r; omega, by rw [List.length_append, dl]; rfl, hD.hl, fun i hi => ?_, hD.h⟩ (by show r - (b + 1) < r - b; omega)
      · simp only [List.map_append, List.map_cons, List.map_nil] at h9
        exact inc h9
      · rw [List.length_append, List.length_singleton] at hi
        by_cases hid : i < dq.length
        · rw [getD_app_l hid]; exact hD.q i hid
        · have : i = dq.length := by omega
          subst this
          rw [getD_app_r (Nat.le_refl _), Nat.sub_self, dl, mod_at hbr]
          rfl
    · have hbr : b = r := by omega
      subst hbr
      clear hK2
      (repeat (first | refine st ?_ | refine And.intro rfl ?_ | refine sc (by omega) ?_ | refine sc (by simp only [List.length_map, List.length_append, List.length_cons, List.length_nil, List.length_set, List.length_replicate, List.length_singleton] at *; omega) ?_ | refine sc (And.intro (by omega) trivial) ?_ | refine sc (And.intro rfl (Nat.le_of_ble_eq_true rfl)) ?_ | refine sc (And.intro (by simp only [List.length_map, List.length_append, List.length_cons, List.length_nil, List.length_set, List.length_replicate, List.length_singleton] at *; omega) trivial) ?_ | refine sc (by decide) ?_ | refine sc (fun _ => trivial) ?_ | refine And.intro (fun _ => rfl) ?_ | refine sc (fun _ => And.intro (by omega) trivial) ?_))
      rw [List.length_map, hwl]
      unfold nf3_2
      refine ent_loop (γ := Sl × Sl × Nat × List DL) (fun t => [sv t.1, sv t.2.1, .int .i64 t.2.2.1])
        (fun t => lockAt p S :: sl cSl 22 q (dq.map (·.1)) :: sl cSl 22 wq (dq.map (·.2.1)) :: bg dQ1 dq :: bg dQ2 dq :: sl cSl 37 t.1 (t.2.2.2.map (·.1)) :: sl cSl 37 t.2.1 (t.2.2.2.map (·.2.1)) :: bg dH1 t.2.2.2 :: bg dH2 t.2.2.2 :: sl cSl 37 w (ws.map (·.1)) :: F)
        (fun t => t.2.2.1 ≤ N ∧ DI S b N (turn * b + b) (turn * N + t.2.2.1) dq t.2.2.2) (fun t => N - t.2.2.1) (hd, wh, 0, dh) rfl ⟨by simp, by simpa using hD⟩ ⟨fun _ hs => hs⟩ ?_
      intro ⟨hd, wh, k, dh⟩ ⟨hk, hD⟩ K3 j3 hK3
      simp only [List.headD_cons, List.tail_cons] at *
      have dl2 := hD.hl
      refine cs (fun g3 => ?_) (fun g3 => ?_)
      · have hkN : k < N := by omega
        have hhl := heldOf_len hw (t := (k : Int) + 1)
        (repeat (first | refine st ?_ | refine And.intro rfl ?_ | refine sc (by omega) ?_ | refine sc (by simp only [List.length_map, List.length_append, List.length_cons, List.length_nil, List.length_set, List.length_replicate, List.length_singleton] at *; omega) ?_ | refine sc (And.intro (by omega) trivial) ?_ | refine sc (And.intro rfl (Nat.le_of_ble_eq_true rfl)) ?_ | refine sc (And.intro (by simp only [List.length_map, List.length_append, List.length_cons, List.length_nil, List.length_set, List.length_replicate, List.length_singleton] at *; omega) trivial) ?_ | refine sc (by decide) ?_ | refine sc (fun _ => trivial) ?_ | refine And.intro (fun _ => rfl) ?_ | refine sc (fun _ => And.intro (by omega) trivial) ?_))
        refine held_ok hw fun s1 => ?_
        (repeat (first | refine st ?_ | refine And.intro rfl ?_ | refine sc (by omega) ?_ | refine sc (by simp only [List.length_map, List.length_append, List.length_cons, List.length_nil, List.length_set, List.length_replicate, List.length_singleton] at *; omega) ?_ | refine sc (And.intro (by omega) trivial) ?_ | refine sc (And.intro rfl (Nat.le_of_ble_eq_true rfl)) ?_ | refine sc (And.intro (by simp only [List.length_map, List.length_append, List.length_cons, List.length_nil, List.length_set, List.length_replicate, List.length_singleton] at *; omega) trivial) ?_ | refine sc (by decide) ?_ | refine sc (fun _ => trivial) ?_ | refine And.intro (fun _ => rfl) ?_ | refine sc (fun _ => And.intro (by omega) trivial) ?_))
        intro s2
        (repeat (first | refine st ?_ | refine And.intro rfl ?_ | refine sc (by omega) ?_ | refine sc (by simp only [List.length_map, List.length_append, List.length_cons, List.length_nil, List.length_set, List.length_replicate, List.length_singleton] at *; omega) ?_ | refine sc (And.intro (by omega) trivial) ?_ | refine sc (And.intro rfl (Nat.le_of_ble_eq_true rfl)) ?_ | refine sc (And.intro (by simp only [List.length_map, List.length_append, List.length_cons, List.length_nil, List.length_set, List.length_replicate, List.length_singleton] at *; omega) trivial) ?_ | refine sc (by decide) ?_ | refine sc (fun _ => trivial) ?_ | refine And.intro (fun _ => rfl) ?_ | refine sc (fun _ => And.intro (by omega) trivial) ?_))
        intro s3
        (repeat (first | refine st ?_ | refine And.intro rfl ?_ | refine sc (by omega) ?_ | refine sc (by simp only [List.length_map, List.length_append, List.length_cons, List.length_nil, List.length_set, List.length_replicate, List.length_singleton] at *; omega) ?_ | refine sc (And.intro (by omega) trivial) ?_ | refine sc (And.intro rfl (Nat.le_of_ble_eq_true rfl)) ?_ | refine sc (And.intro (by simp only [List.length_map, List.length_append, List.length_cons, List.length_nil, List.length_set, List.length_replicate, List.length_singleton] at *; omega) trivial) ?_ | refine sc (by decide) ?_ | refine sc (fun _ => trivial) ?_ | refine And.intro (fun _ => rfl) ?_ | refine sc (fun _ => And.intro (by omega) trivial) ?_))
        intro s4
        (repeat (first | refine st ?_ | refine And.intro rfl ?_ | refine sc (by omega) ?_ | refine sc (by simp only [List.length_map, List.length_append, List.length_cons, List.length_nil, List.length_set, List.length_replicate, List.length_singleton] at *; omega) ?_ | refine sc (And.intro (by omega) trivial) ?_ | refine sc (And.intro rfl (Nat.le_of_ble_eq_true rfl)) ?_ | refine sc (And.intro (by simp only [List.length_map, List.length_append, List.length_cons, List.length_nil, List.length_set, List.length_replicate, List.length_singleton] at *; omega) trivial) ?_ | refine sc (by decide) ?_ | refine sc (fun _ => trivial) ?_ | refine And.intro (fun _ => rfl) ?_ | refine sc (fun _ => And.intro (by omega) trivial) ?_))
        intro s5
        rw [List.nil_append]
        (repeat (first | refine st ?_ | refine And.intro rfl ?_ | refine sc (by omega) ?_ | refine sc (by simp only [List.length_map, List.length_append, List.length_cons, List.length_nil, List.length_set, List.length_replicate, List.length_singleton] at *; omega) ?_ | refine sc (And.intro (by omega) trivial) ?_ | refine sc (And.intro rfl (Nat.le_of_ble_eq_true rfl)) ?_ | refine sc (And.intro (by simp only [List.length_map, List.length_append, List.length_cons, List.length_nil, List.length_set, List.length_replicate, List.length_singleton] at *; omega) trivial) ?_ | refine sc (by decide) ?_ | refine sc (fun _ => trivial) ?_ | refine And.intro (fun _ => rfl) ?_ | refine sc (fun _ => And.intro (by omega) trivial) ?_))
        intro s6
        (repeat (first | refine st ?_ | refine And.intro rfl ?_ | refine sc (by omega) ?_ | refine sc (by simp only [List.length_map, List.length_append, List.length_cons, List.length_nil, List.length_set, List.length_replicate, List.length_singleton] at *; omega) ?_ | refine sc (And.intro (by omega) trivial) ?_ | refine sc (And.intro rfl (Nat.le_of_ble_eq_true rfl)) ?_ | refine sc (And.intro (by simp only [List.length_map, List.length_append, List.length_cons, List.length_nil, List.length_set, List.length_replicate, List.length_singleton] at *; omega) trivial) ?_ | refine sc (by decide) ?_ | refine sc (fun _ => trivial) ?_ | refine And.intro (fun _ => rfl) ?_ | refine sc (fun _ => And.intro (by omega) trivial) ?_))
        intro s7
        (repeat (first | refine st ?_ | refine And.intro rfl ?_ | refine sc (by omega) ?_ | refine sc (by simp only [List.length_map, List.length_append, List.length_cons, List.length_nil, List.length_set, List.length_replicate, List.length_singleton] at *; omega) ?_ | refine sc (And.intro (by omega) trivial) ?_ | refine sc (And.intro rfl (Nat.le_of_ble_eq_true rfl)) ?_ | refine sc (And.intro (by simp only [List.length_map, List.length_append, List.length_cons, List.length_nil, List.length_set, List.length_replicate, List.length_singleton] at *; omega) trivial) ?_ | refine sc (by decide) ?_ | refine sc (fun _ => trivial) ?_ | refine And.intro (fun _ => rfl) ?_ | refine sc (fun _ => And.intro (by omega) trivial) ?_))
        refine ent_take (A := bg dH1 dh) (ent_take (A := sl (cInt .i64) 3 s1 (heldOf S.es ((k : Int) + 1))) (ent_take (A := bg dH1 dh) (bg_snoc (f := dH1) (x := (s1, s5, heldOf S.es ((k : Int) + 1))) ?_)))
        refine ent_take (A := bg dH2 dh) (ent_take (A := sl (cInt .i64) 3 s5 (heldOf S.es ((k : Int) + 1))) (ent_take (A := bg dH2 dh) (bg_snoc (f := dH2) (x := (s1, s5, heldOf S.es ((k : Int) + 1))) ?_)))
        have h9 := hK3 (s3, s7, k + 1, dh ++ [(s1, s5, heldOf S.es ((k : Int) + 1))]) ⟨by show k + 1 ≤ N; omega, hD.ql, by rw [List.length_append, dl2]; rfl, hD.q, fun i hi => ?_⟩ (by show N - (k + 1) < N - k; omega)
        · simp only [List.map_append, List.map_cons, List.map_nil] at h9
          exact inc h9
        · rw [List.length_append, List.length_singleton] at hi
          by_cases hid : i < dh.length
          · rw [getD_app_l hid]; exact hD.h i hid
          · have : i = dh.length := by omega
            subst this
            rw [getD_app_r (Nat.le_refl _), Nat.sub_self, dl2, mod_at hkN]
            rfl
      · have hkN : k = N := by omega
        subst hkN
        (repeat (first | refine st ?_ | refine And.intro rfl ?_ | refine sc (by omega) ?_ | refine sc (by simp only [List.length_map, List.length_append, List.length_cons, List.length_nil, List.length_set, List.length_replicate, List.length_singleton] at *; omega) ?_ | refine sc (And.intro (by omega) trivial) ?_ | refine sc (And.intro rfl (Nat.le_of_ble_eq_true rfl)) ?_ | refine sc (And.intro (by simp only [List.length_map, List.length_append, List.length_cons, List.length_nil, List.length_set, List.length_replicate, List.length_singleton] at *; omega) trivial) ?_ | refine sc (by decide) ?_ | refine sc (fun _ => trivial) ?_ | refine And.intro (fun _ => rfl) ?_ | refine sc (fun _ => And.intro (by omega) trivial) ?_))
        exact hK (q, hd, wq, wh, turn + 1, dq, dh) ⟨by show turn + 1 ≤ 2; omega, by show DI S b k ((turn + 1) * b) ((turn + 1) * k) dq dh; rw [Nat.add_mul, Nat.one_mul, Nat.add_mul, Nat.one_mul]; exact hD⟩ (by show 2 - (turn + 1) < 2 - turn; omega)
  · have ht2 : turn = 2 := by omega
    subst ht2
    clear hK
    have dl := hD.ql
    have dl2 := hD.hl
    (repeat (first | refine st ?_ | refine And.intro rfl ?_ | refine sc (by omega) ?_ | refine sc (by simp only [List.length_map, List.length_append, List.length_cons, List.length_nil, List.length_set, List.length_replicate, List.length_singleton] at *; omega) ?_ | refine sc (And.intro (by omega) trivial) ?_ | refine sc (And.intro rfl (Nat.le_of_ble_eq_true rfl)) ?_ | refine sc (And.intro (by simp only [List.length_map, List.length_append, List.length_cons, List.length_nil, List.length_set, List.length_replicate, List.length_singleton] at *; omega) trivial) ?_ | refine sc (by decide) ?_ | refine sc (fun _ => trivial) ?_ | refine And.intro (fun _ => rfl) ?_ | refine sc (fun _ => And.intro (by omega) trivial) ?_))
    rw [List.length_map]
    unfold nf3_5
    refine ent_loop0 (γ := Nat) (fun i => [.int .i64 i]) (fun i => i ≤ dq.length) (fun i => dq.length - i) 0 rfl (by omega) ?_
    intro i hi K2 j2 hK2
    simp only [List.headD_cons] at *
    refine cs (fun g2 => ?_) (fun g2 => ?_)
    · have hil : i < dq.length := by omega
      have m1 : (dq.map (·.1)).getD i default = (dq.getD i default).1 := getD_map' hil
      have m2 : (dq.map (·.2.1)).getD i default = (dq.getD i default).2.1 := getD_map' hil
      haveI r1 : ∀ M, Rs (bg dQ1 dq :: M) (dq.getD i default).1 (cInt .u64) (dq.getD i default).2.2 := fun M => rs_bg (f := dQ1) (l := dq) (i := i) hil (fun M => (inferInstance : Rs (sl (cInt .u64) 30 (dq.getD i default).1 (dq.getD i default).2.2 :: M) _ _ _)) M
      haveI r2 : ∀ M, Rs (bg dQ2 dq :: M) (dq.getD i default).2.1 (cInt .u64) (dq.getD i default).2.2 := fun M => rs_bg (f := dQ2) (l := dq) (i := i) hil (fun M => (inferInstance : Rs (sl (cInt .u64) 30 (dq.getD i default).2.1 (dq.getD i default).2.2 :: M) _ _ _)) M
      have hsl := stand_len (es := S.es) (b := ((i % r : Nat) : Int))
      have hqi := hD.q i hil
      (repeat (first | refine st ?_ | refine And.intro rfl ?_ | refine sc (by omega) ?_ | refine sc (by simp only [List.length_map, List.length_append, List.length_cons, List.length_nil, List.length_set, List.length_replicate, List.length_singleton] at *; omega) ?_ | refine sc (And.intro (by omega) trivial) ?_ | refine sc (And.intro rfl (Nat.le_of_ble_eq_true rfl)) ?_ | refine sc (And.intro (by simp only [List.length_map, List.length_append, List.length_cons, List.length_nil, List.length_set, List.length_replicate, List.length_singleton] at *; omega) trivial) ?_ | refine sc (by decide) ?_ | refine sc (fun _ => trivial) ?_ | refine And.intro (fun _ => rfl) ?_ | refine sc (fun _ => And.intro (by omega) trivial) ?_))
      rw [m1, m2]
      refine sameTickets_ok (l1 := (dq.getD i default).2.2) (l2 := (dq.getD i default).2.2) (by rw [hqi]; omega) rfl ?_
      (repeat (first | refine st ?_ | refine And.intro rfl ?_ | refine sc (by omega) ?_ | refine sc (by simp only [List.length_map, List.length_append, List.length_cons, List.length_nil, List.length_set, List.length_replicate, List.length_singleton] at *; omega) ?_ | refine sc (And.intro (by omega) trivial) ?_ | refine sc (And.intro rfl (Nat.le_of_ble_eq_true rfl)) ?_ | refine sc (And.intro (by simp only [List.length_map, List.length_append, List.length_cons, List.length_nil, List.length_set, List.length_replicate, List.length_singleton] at *; omega) trivial) ?_ | refine sc (by decide) ?_ | refine sc (fun _ => trivial) ?_ | refine And.intro (fun _ => rfl) ?_ | refine sc (fun _ => And.intro (by omega) trivial) ?_))
      exact hK2 (i + 1) (by omega) (by omega)
    · clear hK2
      (repeat (first | refine st ?_ | refine And.intro rfl ?_ | refine sc (by omega) ?_ | refine sc (by simp only [List.length_map, List.length_append, List.length_cons, List.length_nil, List.length_set, List.length_replicate, List.length_singleton] at *; omega) ?_ | refine sc (And.intro (by omega) trivial) ?_ | refine sc (And.intro rfl (Nat.le_of_ble_eq_true rfl)) ?_ | refine sc (And.intro (by simp only [List.length_map, List.length_append, List.length_cons, List.length_nil, List.length_set, List.length_replicate, List.length_singleton] at *; omega) trivial) ?_ | refine sc (by decide) ?_ | refine sc (fun _ => trivial) ?_ | refine And.intro (fun _ => rfl) ?_ | refine sc (fun _ => And.intro (by omega) trivial) ?_))
      rw [List.length_map]
      unfold nf3_4
      refine ent_loop0 (γ := Nat) (fun i => [.int .i64 i]) (fun i => i ≤ dh.length) (fun i => dh.length - i) 0 rfl (by omega) ?_
      intro i hi K2 j2 hK2
      simp only [List.headD_cons] at *
      refine cs (fun g3 => ?_) (fun g3 => ?_)
      · have hil : i < dh.length := by omega
        have m1 : (dh.map (·.1)).getD i default = (dh.getD i default).1 := getD_map' hil
        have m2 : (dh.map (·.2.1)).getD i default = (dh.getD i default).2.1 := getD_map' hil
        haveI r1 : ∀ M, Rs (bg dH1 dh :: M) (dh.getD i default).1 (cInt .i64) (dh.getD i default).2.2 := fun M => rs_bg (f := dH1) (l := dh) (i := i) hil (fun M => (inferInstance : Rs (sl (cInt .i64) 3 (dh.getD i default).1 (dh.getD i default).2.2 :: M) _ _ _)) M
        haveI r2 : ∀ M, Rs (bg dH2 dh :: M) (dh.getD i default).2.1 (cInt .i64) (dh.getD i default).2.2 := fun M => rs_bg (f := dH2) (l := dh) (i := i) hil (fun M => (inferInstance : Rs (sl (cInt .i64) 3 (dh.getD i default).2.1 (dh.getD i default).2.2 :: M) _ _ _)) M
        have hhl := heldOf_len hw (t := ((i % N : Nat) : Int) + 1)
        have hqi := hD.h i hil
        (repeat (first | refine st ?_ | refine And.intro rfl ?_ | refine sc (by omega) ?_ | refine sc (by simp only [List.length_map, List.length_append, List.length_cons, List.length_nil, List.length_set, List.length_replicate, List.length_singleton] at *; omega) ?_ | refine sc (And.intro (by omega) trivial) ?_ | refine sc (And.intro rfl (Nat.le_of_ble_eq_true rfl)) ?_ | refine sc (And.intro (by simp only [List.length_map, List.length_append, List.length_cons, List.length_nil, List.length_set, List.length_replicate, List.length_singleton] at *; omega) trivial) ?_ | refine sc (by decide) ?_ | refine sc (fun _ => trivial) ?_ | refine And.intro (fun _ => rfl) ?_ | refine sc (fun _ => And.intro (by omega) trivial) ?_))
        rw [m1, m2]
        refine sameInts_ok (l1 := (dh.getD i default).2.2) (l2 := (dh.getD i default).2.2) (by rw [hqi]; omega) rfl ?_
        (repeat (first | refine st ?_ | refine And.intro rfl ?_ | refine sc (by omega) ?_ | refine sc (by simp only [List.length_map, List.length_append, List.length_cons, List.length_nil, List.length_set, List.length_replicate, List.length_singleton] at *; omega) ?_ | refine sc (And.intro (by omega) trivial) ?_ | refine sc (And.intro rfl (Nat.le_of_ble_eq_true rfl)) ?_ | refine sc (And.intro (by simp only [List.length_map, List.length_append, List.length_cons, List.length_nil, List.length_set, List.length_replicate, List.length_singleton] at *; omega) trivial) ?_ | refine sc (by decide) ?_ | refine sc (fun _ => trivial) ?_ | refine And.intro (fun _ => rfl) ?_ | refine sc (fun _ => And.intro (by omega) trivial) ?_))
        exact hK2 (i + 1) (by omega) (by omega)
      · clear hK2
        (repeat (first | refine st ?_ | refine And.intro rfl ?_ | refine sc (by omega) ?_ | refine sc (by simp only [List.length_map, List.length_append, List.length_cons, List.length_nil, List.length_set, List.length_replicate, List.length_singleton] at *; omega) ?_ | refine sc (And.intro (by omega) trivial) ?_ | refine sc (And.intro rfl (Nat.le_of_ble_eq_true rfl)) ?_ | refine sc (And.intro (by simp only [List.length_map, List.length_append, List.length_cons, List.length_nil, List.length_set, List.length_replicate, List.length_singleton] at *; omega) trivial) ?_ | refine sc (by decide) ?_ | refine sc (fun _ => trivial) ?_ | refine And.intro (fun _ => rfl) ?_ | refine sc (fun _ => And.intro (by omega) trivial) ?_))
        have eQ : bg dQ1 dq = bg uQ (dq.map fun x => (x.1, x.2.2)) := by rw [bg_map]; rfl
        have eH : bg dH1 dh = bg uH (dh.map fun x => (x.1, x.2.2)) := by rw [bg_map]; rfl
        have fQ : dq.map (·.1) = (dq.map fun x => (x.1, x.2.2)).map (·.1) := by rw [List.map_map]; rfl
        have fH : dh.map (·.1) = (dh.map fun x => (x.1, x.2.2)).map (·.1) := by rw [List.map_map]; rfl
        rw [eQ, eH, fQ, fH]
        refine inc (M := sl cSl 22 q ((dq.map fun x => (x.1, x.2.2)).map (·.1)) :: bg uQ (dq.map fun x => (x.1, x.2.2)) :: sl cSl 37 hd ((dh.map fun x => (x.1, x.2.2)).map (·.1)) :: bg uH (dh.map fun x => (x.1, x.2.2)) :: lockAt p S :: sl cSl 22 wq (dq.map (·.2.1)) :: bg dQ2 dq :: sl cSl 37 wh (dh.map (·.2.1)) :: bg dH2 dh :: sl cSl 37 w (ws.map (·.1)) :: F) ?_
        refine marked_ok (by rw [List.length_map]; omega) (by rw [List.length_map]; omega) (fun i hi => ?_) (fun i hi => ?_) ?_
        · rw [List.length_map] at hi
          have e : (dq.map fun x => ((x.1, x.2.2) : PL)).getD i default = (fun x : DL => ((x.1, x.2.2) : PL)) (dq.getD i default) := getD_map' hi
          rw [e]
          show (dq.getD i default).2.2.length ≤ _
          rw [hD.q i hi]
          have := stand_len (es := S.es) (b := ((i % r : Nat) : Int))
          omega
        · rw [List.length_map] at hi
          have e : (dh.map fun x => ((x.1, x.2.2) : PL)).getD i default = (fun x : DL => ((x.1, x.2.2) : PL)) (dh.getD i default) := getD_map' hi
          rw [e]
          show (dh.getD i default).2.2.length ≤ _
          rw [hD.h i hi]
          have := heldOf_len hw (t := ((i % N : Nat) : Int) + 1)
          omega
        · (repeat (first | refine st ?_ | refine And.intro rfl ?_ | refine sc (by omega) ?_ | refine sc (by simp only [List.length_map, List.length_append, List.length_cons, List.length_nil, List.length_set, List.length_replicate, List.length_singleton] at *; omega) ?_ | refine sc (And.intro (by omega) trivial) ?_ | refine sc (And.intro rfl (Nat.le_of_ble_eq_true rfl)) ?_ | refine sc (And.intro (by simp only [List.length_map, List.length_append, List.length_cons, List.length_nil, List.length_set, List.length_replicate, List.length_singleton] at *; omega) trivial) ?_ | refine sc (by decide) ?_ | refine sc (fun _ => trivial) ?_ | refine And.intro (fun _ => rfl) ?_ | refine sc (fun _ => And.intro (by omega) trivial) ?_))
          rw [List.length_map, hwl]
          refine kept_ok hw hr hN (by omega) (fun i hi => ?_) (by omega) (fun i hi => ?_) ?_
          · rw [hD.q i (by omega), Nat.mod_eq_of_lt hi]
          · rw [hD.h i (by omega), Nat.mod_eq_of_lt hi]
          · (repeat (first | refine st ?_ | refine And.intro rfl ?_ | refine sc (by omega) ?_ | refine sc (by simp only [List.length_map, List.length_append, List.length_cons, List.length_nil, List.length_set, List.length_replicate, List.length_singleton] at *; omega) ?_ | refine sc (And.intro (by omega) trivial) ?_ | refine sc (And.intro rfl (Nat.le_of_ble_eq_true rfl)) ?_ | refine sc (And.intro (by simp only [List.length_map, List.length_append, List.length_cons, List.length_nil, List.length_set, List.length_replicate, List.length_singleton] at *; omega) trivial) ?_ | refine sc (by decide) ?_ | refine sc (fun _ => trivial) ?_ | refine And.intro (fun _ => rfl) ?_ | refine sc (fun _ => And.intro (by omega) trivial) ?_))
            exact ent_drop h
theorem main3_ok {h0 : Hp} {n : Int} {s1 : Sl} {sets : List Int} [ho : HasOwn F h0] [rs1 : RdB h0 s1 (cInt .u64) sets] (hs : sets.length ≤ 4611686018427387904) (hx : ∀ x ∈ sets, 0 ≤ x ∧ x ≤ 18446744073709551615) (h : Ent F (K (.bool true))) : Ent F (callC Try.prog 3 [.int .i64 n, sv s1] K) := by
  refine ent_mono ?_ fun w => nf3_ok
  unfold nf3
  refine blocks_ok fun r r1 r9 => ?_
  refine crowd_ok (sets := sets) hs hx r1 r9 fun p S0 w ws hw hq hl hf => ?_
  (repeat (first | refine st ?_ | refine And.intro rfl ?_ | refine sc (by omega) ?_ | refine sc (by simp only [List.length_map, List.length_append, List.length_cons, List.length_nil, List.length_set, List.length_replicate, List.length_singleton] at *; omega) ?_ | refine sc (And.intro (by omega) trivial) ?_ | refine sc (And.intro rfl (Nat.le_of_ble_eq_true rfl)) ?_ | refine sc (And.intro (by simp only [List.length_map, List.length_append, List.length_cons, List.length_nil, List.length_set, List.length_replicate, List.length_singleton] at *; omega) trivial) ?_ | refine sc (by decide) ?_ | refine sc (fun _ => trivial) ?_ | refine And.intro (fun _ => rfl) ?_ | refine sc (fun _ => And.intro (by omega) trivial) ?_))
  refine awake_ok ?_
  (repeat (first | refine st ?_ | refine And.intro rfl ?_ | refine sc (by omega) ?_ | refine sc (by simp only [List.length_map, List.length_append, List.length_cons, List.length_nil, List.length_set, List.length_replicate, List.length_singleton] at *; omega) ?_ | refine sc (And.intro (by omega) trivial) ?_ | refine sc (And.intro rfl (Nat.le_of_ble_eq_true rfl)) ?_ | refine sc (And.intro (by simp only [List.length_map, List.length_append, List.length_cons, List.length_nil, List.length_set, List.length_replicate, List.length_singleton] at *; omega) trivial) ?_ | refine sc (by decide) ?_ | refine sc (fun _ => trivial) ?_ | refine And.intro (fun _ => rfl) ?_ | refine sc (fun _ => And.intro (by omega) trivial) ?_))
  have hwl : ws.length = S0.es.length := by have := congrArg List.length hf.sets; simpa using this
  rw [List.length_map, hwl]
  refine ent_loop (γ := Nat × LS) (fun t => [.int .i64 t.1]) (fun t => lockAt p t.2 :: sl cSl 37 w (ws.map (·.1)) :: F) (fun t => t.1 ≤ S0.es.length ∧ WF t.2 ∧ t.2.qs.length = r ∧ t.2.es.length = S0.es.length) (fun t => S0.es.length - t.1) (0, S0) rfl ⟨by simp, hw, hq, rfl⟩ inferInstance ?_
  intro ⟨k, S⟩ ⟨hk, hw, hq, hel⟩ K1 j hK
  simp only [List.headD_cons] at *
  refine cs (fun g1 => ?_) (fun g1 => ?_)
  · (repeat (first | refine st ?_ | refine And.intro rfl ?_ | refine sc (by omega) ?_ | refine sc (by simp only [List.length_map, List.length_append, List.length_cons, List.length_nil, List.length_set, List.length_replicate, List.length_singleton] at *; omega) ?_ | refine sc (And.intro (by omega) trivial) ?_ | refine sc (And.intro rfl (Nat.le_of_ble_eq_true rfl)) ?_ | refine sc (And.intro (by simp only [List.length_map, List.length_append, List.length_cons, List.length_nil, List.length_set, List.length_replicate, List.length_singleton] at *; omega) trivial) ?_ | refine sc (by decide) ?_ | refine sc (fun _ => trivial) ?_ | refine And.intro (fun _ => rfl) ?_ | refine sc (fun _ => And.intro (by omega) trivial) ?_))
    unfold nf3_1
    refine ent_loop (γ := Nat × LS) (fun t => [.int .i64 t.1]) (fun t => lockAt p t.2 :: sl cSl 37 w (ws.map (·.1)) :: F) (fun t => t.1 ≤ 12 ∧ WF t.2 ∧ t.2.qs.length = r ∧ t.2.es.length = S0.es.length) (fun t => 12 - t.1) (0, S) rfl ⟨by simp, hw, hq, hel⟩ inferInstance ?_
    clear hw hq hel
    intro ⟨c, S⟩ ⟨hc, hw, hq, hel⟩ K2 j2 hK2
    simp only [List.headD_cons] at *
    have next := hK (k + 1, S) ⟨by show k + 1 ≤ _; omega, hw, hq, hel⟩ (by show _ - (k + 1) < _; omega)
    refine cs (fun g2 => ?_) (fun g2 => ?_)
    · (repeat (first | refine st ?_ | refine And.intro rfl ?_ | refine sc (by omega) ?_ | refine sc (by simp only [List.length_map, List.length_append, List.length_cons, List.length_nil, List.length_set, List.length_replicate, List.length_singleton] at *; omega) ?_ | refine sc (And.intro (by omega) trivial) ?_ | refine sc (And.intro rfl (Nat.le_of_ble_eq_true rfl)) ?_ | refine sc (And.intro (by simp only [List.length_map, List.length_append, List.length_cons, List.length_nil, List.length_set, List.length_replicate, List.length_singleton] at *; omega) trivial) ?_ | refine sc (by decide) ?_ | refine sc (fun _ => trivial) ?_ | refine And.intro (fun _ => rfl) ?_ | refine sc (fun _ => And.intro (by omega) trivial) ?_))
      refine ready_ok hw ?_
      cases hrd : readyS S.es ((k : Int) + 1) with
      | false =>
        (repeat (first | refine st ?_ | refine And.intro rfl ?_ | refine sc (by omega) ?_ | refine sc (by simp only [List.length_map, List.length_append, List.length_cons, List.length_nil, List.length_set, List.length_replicate, List.length_singleton] at *; omega) ?_ | refine sc (And.intro (by omega) trivial) ?_ | refine sc (And.intro rfl (Nat.le_of_ble_eq_true rfl)) ?_ | refine sc (And.intro (by simp only [List.length_map, List.length_append, List.length_cons, List.length_nil, List.length_set, List.length_replicate, List.length_singleton] at *; omega) trivial) ?_ | refine sc (by decide) ?_ | refine sc (fun _ => trivial) ?_ | refine And.intro (fun _ => rfl) ?_ | refine sc (fun _ => And.intro (by omega) trivial) ?_))
        exact next
      | true =>
        (repeat (first | refine st ?_ | refine And.intro rfl ?_ | refine sc (by omega) ?_ | refine sc (by simp only [List.length_map, List.length_append, List.length_cons, List.length_nil, List.length_set, List.length_replicate, List.length_singleton] at *; omega) ?_ | refine sc (And.intro (by omega) trivial) ?_ | refine sc (And.intro rfl (Nat.le_of_ble_eq_true rfl)) ?_ | refine sc (And.intro (by simp only [List.length_map, List.length_append, List.length_cons, List.length_nil, List.length_set, List.length_replicate, List.length_singleton] at *; omega) trivial) ?_ | refine sc (by decide) ?_ | refine sc (fun _ => trivial) ?_ | refine And.intro (fun _ => rfl) ?_ | refine sc (fun _ => And.intro (by omega) trivial) ?_))
        refine take_ok hw ?_
        rw [take_ready hrd]
        (repeat (first | refine st ?_ | refine And.intro rfl ?_ | refine sc (by omega) ?_ | refine sc (by simp only [List.length_map, List.length_append, List.length_cons, List.length_nil, List.length_set, List.length_replicate, List.length_singleton] at *; omega) ?_ | refine sc (And.intro (by omega) trivial) ?_ | refine sc (And.intro rfl (Nat.le_of_ble_eq_true rfl)) ?_ | refine sc (And.intro (by simp only [List.length_map, List.length_append, List.length_cons, List.length_nil, List.length_set, List.length_replicate, List.length_singleton] at *; omega) trivial) ?_ | refine sc (by decide) ?_ | refine sc (fun _ => trivial) ?_ | refine And.intro (fun _ => rfl) ?_ | refine sc (fun _ => And.intro (by omega) trivial) ?_))
        refine num_ok ?_
        (repeat (first | refine st ?_ | refine And.intro rfl ?_ | refine sc (by omega) ?_ | refine sc (by simp only [List.length_map, List.length_append, List.length_cons, List.length_nil, List.length_set, List.length_replicate, List.length_singleton] at *; omega) ?_ | refine sc (And.intro (by omega) trivial) ?_ | refine sc (And.intro rfl (Nat.le_of_ble_eq_true rfl)) ?_ | refine sc (And.intro (by simp only [List.length_map, List.length_append, List.length_cons, List.length_nil, List.length_set, List.length_replicate, List.length_singleton] at *; omega) trivial) ?_ | refine sc (by decide) ?_ | refine sc (fun _ => trivial) ?_ | refine And.intro (fun _ => rfl) ?_ | refine sc (fun _ => And.intro (by omega) trivial) ?_ | refine ct rfl ?_))
        obtain ⟨t1, t2⟩ := takeS_len (S := S) (t := (k : Int) + 1)
        exact hK2 (c + 1, takeS S ((k : Int) + 1)) ⟨by show c + 1 ≤ 12; omega, take_wf hw, by rw [t2]; exact hq, by rw [t1]; exact hel⟩ (by show 12 - (c + 1) < 12 - c; omega)
    · (repeat (first | refine st ?_ | refine And.intro rfl ?_ | refine sc (by omega) ?_ | refine sc (by simp only [List.length_map, List.length_append, List.length_cons, List.length_nil, List.length_set, List.length_replicate, List.length_singleton] at *; omega) ?_ | refine sc (And.intro (by omega) trivial) ?_ | refine sc (And.intro rfl (Nat.le_of_ble_eq_true rfl)) ?_ | refine sc (And.intro (by simp only [List.length_map, List.length_append, List.length_cons, List.length_nil, List.length_set, List.length_replicate, List.length_singleton] at *; omega) trivial) ?_ | refine sc (by decide) ?_ | refine sc (fun _ => trivial) ?_ | refine And.intro (fun _ => rfl) ?_ | refine sc (fun _ => And.intro (by omega) trivial) ?_))
      exact next
  · clear hK
    (repeat (first | refine st ?_ | refine And.intro rfl ?_ | refine sc (by omega) ?_ | refine sc (by simp only [List.length_map, List.length_append, List.length_cons, List.length_nil, List.length_set, List.length_replicate, List.length_singleton] at *; omega) ?_ | refine sc (And.intro (by omega) trivial) ?_ | refine sc (And.intro rfl (Nat.le_of_ble_eq_true rfl)) ?_ | refine sc (And.intro (by simp only [List.length_map, List.length_append, List.length_cons, List.length_nil, List.length_set, List.length_replicate, List.length_singleton] at *; omega) trivial) ?_ | refine sc (by decide) ?_ | refine sc (fun _ => trivial) ?_ | refine And.intro (fun _ => rfl) ?_ | refine sc (fun _ => And.intro (by omega) trivial) ?_))
    exact hands_ok hw hq hel hwl h
end
end Go.Proofs.Ytipjamgjgijeeaa
