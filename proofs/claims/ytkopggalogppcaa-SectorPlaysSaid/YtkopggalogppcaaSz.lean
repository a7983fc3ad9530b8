/- SectorPlays: the whole. -/
import Derived.Test.YtkopggalogppcaaSw
namespace Go.Proofs.Ytkopggalogppcaa
set_option linter.unusedSimpArgs false
set_option linter.unusedVariables false
open Go.Dn
set_option linter.unusedSectionVars false
set_option synthInstance.maxSize 10000
set_option synthInstance.maxHeartbeats 400000
set_option maxHeartbeats 2000000
variable [sd : Side]
/-! ## A disk is awake -/
theorem wrM_in {m : DM} {n : Int} {l : List UInt8} (h : 0 ≤ n ∧ n < m.dur.length) (hl : l.length = 64) : wrM m n l = ⟨m.dur, m.ws ++ [⟨n, arrOf 64 l⟩]⟩ := by unfold wrM; rw [if_pos h, if_pos hl]
theorem wrE_in {m : DM} {n : Int} {l : List UInt8} (h : 0 ≤ n ∧ n < m.dur.length) (hl : l.length = 64) : wrE m n l = 0 := by unfold wrE; rw [if_pos h, if_pos hl]
def rep (x : UInt8) : List UInt8 := List.replicate 64 x
theorem rep_len {x : UInt8} : (rep x).length = 64 := List.length_replicate
theorem rep_arr {x : UInt8} : (arrOf 64 (rep x)).l = rep x := arrOf_l rep_len
def m0 : DM := ⟨List.replicate 2 zA, []⟩
def m1 : DM := ⟨List.replicate 2 zA, [⟨0, arrOf 64 (rep 1)⟩]⟩
def m2 : DM := ⟨List.replicate 2 zA, [⟨0, arrOf 64 (rep 1)⟩, ⟨0, arrOf 64 (rep 2)⟩]⟩
def m3 : DM := ⟨List.replicate 2 zA, [⟨0, arrOf 64 (rep 1)⟩, ⟨0, arrOf 64 (rep 2)⟩, ⟨1, arrOf 64 (rep 3)⟩]⟩
def m4 : DM := ⟨[arrOf 64 (rep 1), arrOf 64 (rep 3)], []⟩
theorem m4_eq : crM m3 (qOf [2, 0, 2, 9, -1]) = m4 := by
  have q0 : qOf [2, 0, 2, 9, -1] 0 = true := by decide
  have q1 : qOf [2, 0, 2, 9, -1] 1 = false := by decide
  have q2 : qOf [2, 0, 2, 9, -1] 2 = true := by decide
  have e : cr m3 (qOf [2, 0, 2, 9, -1]) 3 = [arrOf 64 (rep 1), arrOf 64 (rep 3)] := by
    rw [cr_yes (i := 2) q2, cr_no (i := 1) q1, cr_yes (i := 0) q0]
    rfl
  show (⟨cr m3 (qOf [2, 0, 2, 9, -1]) 3, []⟩ : DM) = _
  rw [e]
  rfl
theorem m3_ok : DOk m3 := ⟨by decide, by decide, by decide, fun w hw => by
  have hl : (m3.dur.length : Int) = 2 := rfl
  rw [hl]
  rcases List.mem_cons.1 hw with rfl | hw
  · exact ⟨Int.le_refl _, by show (0 : Int) < 2; omega⟩
  · rcases List.mem_cons.1 hw with rfl | hw
    · exact ⟨Int.le_refl _, by show (0 : Int) < 2; omega⟩
    · rw [List.mem_singleton.1 hw]
      exact ⟨by show (0 : Int) ≤ 1; omega, by show (1 : Int) < 2; omega⟩⟩
theorem awake1_ok {p : Nat} {s1 s2 s3 : Sl} {K : Value → W} {F : List HProp} (h : Ent F (K (.bool true))) :
    Ent (sl cU8 5 s1 (List.replicate 64 0) :: sl cU8 5 s2 (List.replicate 64 0) :: sl cU8 5 s3 (List.replicate 64 0) :: diskAt p m0 :: F) (nf4_1 K (.pointer (pt p)) (sv s1) (sv s2) (sv s3)) := by
  unfold nf4_1
  (repeat (first | refine st ?_ | refine And.intro rfl ?_ | refine sc (by omega) ?_ | refine sc (by simp only [List.length_map, List.length_append, List.length_cons, List.length_nil, List.length_set, List.length_replicate, List.length_singleton] at *; omega) ?_ | refine sc (And.intro (by omega) trivial) ?_ | refine sc (And.intro rfl (Nat.le_of_ble_eq_true rfl)) ?_ | refine sc (And.intro (by simp only [List.length_map, List.length_append, List.length_cons, List.length_nil, List.length_set, List.length_replicate, List.length_singleton] at *; omega) trivial) ?_ | refine sc (by decide) ?_ | refine sc (fun _ => trivial) ?_ | refine And.intro (fun _ => rfl) ?_ | refine sc (fun _ => And.intro (by omega) trivial) ?_))
  refine ent_loop (γ := Nat × List UInt8 × List UInt8 × List UInt8) (fun t => [.int .i64 t.1]) (fun t => sl cU8 5 s1 t.2.1 :: sl cU8 5 s2 t.2.2.1 :: sl cU8 5 s3 t.2.2.2 :: diskAt p m0 :: F)
    (fun t => t.1 ≤ 64 ∧ (t.2.1.length = 64 ∧ t.2.1.take t.1 = List.replicate t.1 1) ∧ (t.2.2.1.length = 64 ∧ t.2.2.1.take t.1 = List.replicate t.1 2) ∧ (t.2.2.2.length = 64 ∧ t.2.2.2.take t.1 = List.replicate t.1 3)) (fun t => 64 - t.1)
    (0, List.replicate 64 0, List.replicate 64 0, List.replicate 64 0) rfl ⟨by simp, ⟨by simp, by simp⟩, ⟨by simp, by simp⟩, ⟨by simp, by simp⟩⟩ ⟨fun _ hs => hs⟩ ?_
  intro ⟨i, l1, l2, l3⟩ ⟨hi, ⟨a1, b1⟩, ⟨a2, b2⟩, ⟨a3, b3⟩⟩ K1 j hK
  simp only [List.headD_cons] at *
  refine cs (fun h1 => ?_) (fun h1 => ?_)
  · simp only [List.length_replicate] at h1
    (repeat (first | refine st ?_ | refine And.intro rfl ?_ | refine sc (by omega) ?_ | refine sc (by simp only [List.length_map, List.length_append, List.length_cons, List.length_nil, List.length_set, List.length_replicate, List.length_singleton] at *; omega) ?_ | refine sc (And.intro (by omega) trivial) ?_ | refine sc (And.intro rfl (Nat.le_of_ble_eq_true rfl)) ?_ | refine sc (And.intro (by simp only [List.length_map, List.length_append, List.length_cons, List.length_nil, List.length_set, List.length_replicate, List.length_singleton] at *; omega) trivial) ?_ | refine sc (by decide) ?_ | refine sc (fun _ => trivial) ?_ | refine And.intro (fun _ => rfl) ?_ | refine sc (fun _ => And.intro (by omega) trivial) ?_))
    exact hK (i + 1, l1.set i 1, l2.set i 2, l3.set i 3) ⟨by show i + 1 ≤ 64; omega, ⟨by rw [List.length_set]; exact a1, take_set_rep b1 (by omega)⟩, ⟨by rw [List.length_set]; exact a2, take_set_rep b2 (by omega)⟩, ⟨by rw [List.length_set]; exact a3, take_set_rep b3 (by omega)⟩⟩ (by show 64 - (i + 1) < _; omega)
  · simp only [List.length_replicate] at h1
    have : i = 64 := by omega
    subst this
    clear hK
    have c1 : l1 = rep 1 := by unfold rep; rw [← b1]; exact (List.take_of_length_le (by omega)).symm
    have c2 : l2 = rep 2 := by unfold rep; rw [← b2]; exact (List.take_of_length_le (by omega)).symm
    have c3 : l3 = rep 3 := by unfold rep; rw [← b3]; exact (List.take_of_length_le (by omega)).symm
    subst c1 c2 c3
    (repeat (first | refine st ?_ | refine And.intro rfl ?_ | refine sc (by omega) ?_ | refine sc (by simp only [List.length_map, List.length_append, List.length_cons, List.length_nil, List.length_set, List.length_replicate, List.length_singleton] at *; omega) ?_ | refine sc (And.intro (by omega) trivial) ?_ | refine sc (And.intro rfl (Nat.le_of_ble_eq_true rfl)) ?_ | refine sc (And.intro (by simp only [List.length_map, List.length_append, List.length_cons, List.length_nil, List.length_set, List.length_replicate, List.length_singleton] at *; omega) trivial) ?_ | refine sc (by decide) ?_ | refine sc (fun _ => trivial) ?_ | refine And.intro (fun _ => rfl) ?_ | refine sc (fun _ => And.intro (by omega) trivial) ?_))
    refine ent_take (A := diskAt p m0) (write_ok (l := rep 1) (by show 0 ≤ _; omega) (by rw [rep_len]; omega) ?_)
    rw [wrM_in (m := m0) ⟨by omega, by show (0 : Int) < 2; omega⟩ rep_len, wrE_in (m := m0) ⟨by omega, by show (0 : Int) < 2; omega⟩ rep_len]
    change Ent (diskAt p m1 :: _) _
    refine ent_take (A := diskAt p m1) (write_ok (l := rep 2) (by show 1 ≤ _; omega) (by rw [rep_len]; omega) ?_)
    rw [wrM_in (m := m1) ⟨by omega, by show (0 : Int) < 2; omega⟩ rep_len, wrE_in (m := m1) ⟨by omega, by show (0 : Int) < 2; omega⟩ rep_len]
    change Ent (diskAt p m2 :: _) _
    refine ent_take (A := diskAt p m2) (write_ok (l := rep 3) (by show 2 ≤ _; omega) (by rw [rep_len]; omega) ?_)
    rw [wrM_in (m := m2) ⟨by omega, by show (1 : Int) < 2; omega⟩ rep_len, wrE_in (m := m2) ⟨by omega, by show (1 : Int) < 2; omega⟩ rep_len]
    change Ent (diskAt p m3 :: _) _
    refine ent_take (A := diskAt p m3) (read_ok (by show 3 ≤ _; omega) fun s4 => ?_)
    have e1 : rdE m3 0 = 0 := if_pos ⟨by omega, by show (0 : Int) < 2; omega⟩
    have e2 : rdB m3 0 = rep 2 := by
      unfold rdB
      rw [if_pos ⟨by omega, by show (0 : Int) < 2; omega⟩]
      show (nw m3 0 3).l = _
      exact rep_arr
    rw [e1, e2]
    (repeat (first | refine st ?_ | refine And.intro rfl ?_ | refine sc (by omega) ?_ | refine sc (by simp only [List.length_map, List.length_append, List.length_cons, List.length_nil, List.length_set, List.length_replicate, List.length_singleton] at *; omega) ?_ | refine sc (And.intro (by omega) trivial) ?_ | refine sc (And.intro rfl (Nat.le_of_ble_eq_true rfl)) ?_ | refine sc (And.intro (by simp only [List.length_map, List.length_append, List.length_cons, List.length_nil, List.length_set, List.length_replicate, List.length_singleton] at *; omega) trivial) ?_ | refine sc (by decide) ?_ | refine sc (fun _ => trivial) ?_ | refine And.intro (fun _ => rfl) ?_ | refine sc (fun _ => And.intro (by omega) trivial) ?_))
    intro s5
    refine ent_take (A := diskAt p m3) (crash_ok (ks := [2, 0, 2, 9, -1]) m3_ok (by decide) ?_)
    rw [m4_eq]
    (repeat (first | refine st ?_ | refine And.intro rfl ?_ | refine sc (by omega) ?_ | refine sc (by simp only [List.length_map, List.length_append, List.length_cons, List.length_nil, List.length_set, List.length_replicate, List.length_singleton] at *; omega) ?_ | refine sc (And.intro (by omega) trivial) ?_ | refine sc (And.intro rfl (Nat.le_of_ble_eq_true rfl)) ?_ | refine sc (And.intro (by simp only [List.length_map, List.length_append, List.length_cons, List.length_nil, List.length_set, List.length_replicate, List.length_singleton] at *; omega) trivial) ?_ | refine sc (by decide) ?_ | refine sc (fun _ => trivial) ?_ | refine And.intro (fun _ => rfl) ?_ | refine sc (fun _ => And.intro (by omega) trivial) ?_ | refine ct rfl ?_))
    refine ent_take (A := diskAt p m4) (image_ok (by decide) fun s6 => ?_)
    have e3 : fl m4.dur = rep 1 ++ rep 3 := by
      show fl [arrOf 64 (rep 1), arrOf 64 (rep 3)] = _
      rw [fl_cons, fl_one, rep_arr, rep_arr]
    (repeat (first | refine st ?_ | refine And.intro rfl ?_ | refine sc (by omega) ?_ | refine sc (by simp only [List.length_map, List.length_append, List.length_cons, List.length_nil, List.length_set, List.length_replicate, List.length_singleton] at *; omega) ?_ | refine sc (And.intro (by omega) trivial) ?_ | refine sc (And.intro rfl (Nat.le_of_ble_eq_true rfl)) ?_ | refine sc (And.intro (by simp only [List.length_map, List.length_append, List.length_cons, List.length_nil, List.length_set, List.length_replicate, List.length_singleton] at *; omega) trivial) ?_ | refine sc (by decide) ?_ | refine sc (fun _ => trivial) ?_ | refine And.intro (fun _ => rfl) ?_ | refine sc (fun _ => And.intro (by omega) trivial) ?_))
    refine ct e3 ?_
    (repeat (first | refine st ?_ | refine And.intro rfl ?_ | refine sc (by omega) ?_ | refine sc (by simp only [List.length_map, List.length_append, List.length_cons, List.length_nil, List.length_set, List.length_replicate, List.length_singleton] at *; omega) ?_ | refine sc (And.intro (by omega) trivial) ?_ | refine sc (And.intro rfl (Nat.le_of_ble_eq_true rfl)) ?_ | refine sc (And.intro (by simp only [List.length_map, List.length_append, List.length_cons, List.length_nil, List.length_set, List.length_replicate, List.length_singleton] at *; omega) trivial) ?_ | refine sc (by decide) ?_ | refine sc (fun _ => trivial) ?_ | refine And.intro (fun _ => rfl) ?_ | refine sc (fun _ => And.intro (by omega) trivial) ?_))
    exact inc h
theorem awake_ok {K : Value → W} {F : List HProp} (h : Ent F (K (.bool true))) : Ent F (callC Try.prog 4 [] K) := by
  refine ent_mono ?_ fun w => nf4_ok
  unfold nf4
  refine new_ok (fun _ p => ?_) (fun hc => absurd ⟨by omega, by omega⟩ hc)
  change Ent (diskAt p m0 :: F) _
  (repeat (first | refine st ?_ | refine And.intro rfl ?_ | refine sc (by omega) ?_ | refine sc (by simp only [List.length_map, List.length_append, List.length_cons, List.length_nil, List.length_set, List.length_replicate, List.length_singleton] at *; omega) ?_ | refine sc (And.intro (by omega) trivial) ?_ | refine sc (And.intro rfl (Nat.le_of_ble_eq_true rfl)) ?_ | refine sc (And.intro (by simp only [List.length_map, List.length_append, List.length_cons, List.length_nil, List.length_set, List.length_replicate, List.length_singleton] at *; omega) trivial) ?_ | refine sc (by decide) ?_ | refine sc (fun _ => trivial) ?_ | refine And.intro (fun _ => rfl) ?_ | refine sc (fun _ => And.intro (by omega) trivial) ?_ | refine ct rfl ?_))
  refine len_ok ?_
  (repeat (first | refine st ?_ | refine And.intro rfl ?_ | refine sc (by omega) ?_ | refine sc (by simp only [List.length_map, List.length_append, List.length_cons, List.length_nil, List.length_set, List.length_replicate, List.length_singleton] at *; omega) ?_ | refine sc (And.intro (by omega) trivial) ?_ | refine sc (And.intro rfl (Nat.le_of_ble_eq_true rfl)) ?_ | refine sc (And.intro (by simp only [List.length_map, List.length_append, List.length_cons, List.length_nil, List.length_set, List.length_replicate, List.length_singleton] at *; omega) trivial) ?_ | refine sc (by decide) ?_ | refine sc (fun _ => trivial) ?_ | refine And.intro (fun _ => rfl) ?_ | refine sc (fun _ => And.intro (by omega) trivial) ?_ | refine ct rfl ?_))
  (repeat' (first | refine st ?_ | refine And.intro rfl ?_ | refine sc (by omega) ?_ | refine sc (by simp only [List.length_map, List.length_append, List.length_cons, List.length_nil, List.length_set, List.length_replicate, List.length_singleton] at *; omega) ?_ | refine sc (And.intro (by omega) trivial) ?_ | refine sc (And.intro rfl (Nat.le_of_ble_eq_true rfl)) ?_ | refine sc (And.intro (by simp only [List.length_map, List.length_append, List.length_cons, List.length_nil, List.length_set, List.length_replicate, List.length_singleton] at *; omega) trivial) ?_ | refine sc (by decide) ?_ | refine sc (fun _ => trivial) ?_ | refine And.intro (fun _ => rfl) ?_ | refine sc (fun _ => And.intro (by omega) trivial) ?_ | refine And.intro ?_ ?_ | refine fun (_ : Sl) => ?_ | refine fun (_ : Nat) => ?_))
  all_goals (simp only [show Int.toNat 64 = 64 from rfl]; exact inc (awake1_ok h))
/-! ## The end -/
theorem side_ex {p i : Nat} {g : GW} {N : Nat} {a b : Sl} {F : List HProp} (hI : Inv g N) (hi : i < 2) : ∃ (P Q : Nat) (m : DM) (G : List HProp), (pv g a b).d.get i = pt P ∧ (pv g a b).r.get i = pt Q ∧ DOk m ∧ m.ws.length ≤ N ∧
    Inc (vr p 38 S_wicketlaw04_pair.c (pv g a b) :: sl cSl 40 a (g.kl.map (·.s)) :: sl cSl 40 b (g.kl.map (·.w)) :: bg klAt g.kl :: diskAt g.s0.p g.s0.m :: refAt g.s0.q g.s0.m :: diskAt g.s1.p g.s1.m :: refAt g.s1.q g.s1.m :: F) (vr p 38 S_wicketlaw04_pair.c (pv g a b) :: diskAt P m :: refAt Q m :: G) ∧
    Inc (vr p 38 S_wicketlaw04_pair.c (pv g a b) :: diskAt P m :: refAt Q m :: G) (vr p 38 S_wicketlaw04_pair.c (pv g a b) :: sl cSl 40 a (g.kl.map (·.s)) :: sl cSl 40 b (g.kl.map (·.w)) :: bg klAt g.kl :: diskAt g.s0.p g.s0.m :: refAt g.s0.q g.s0.m :: diskAt g.s1.p g.s1.m :: refAt g.s1.q g.s1.m :: F) := by
  have : i = 0 ∨ i = 1 := by omega
  rcases this with rfl | rfl
  · exact ⟨g.s0.p, g.s0.q, g.s0.m, sl cSl 40 a (g.kl.map (·.s)) :: sl cSl 40 b (g.kl.map (·.w)) :: bg klAt g.kl :: diskAt g.s1.p g.s1.m :: refAt g.s1.q g.s1.m :: F, rfl, rfl, hI.d0, hI.n0, inferInstance, inferInstance⟩
  · exact ⟨g.s1.p, g.s1.q, g.s1.m, sl cSl 40 a (g.kl.map (·.s)) :: sl cSl 40 b (g.kl.map (·.w)) :: bg klAt g.kl :: diskAt g.s0.p g.s0.m :: refAt g.s0.q g.s0.m :: F, rfl, rfl, hI.d1, hI.n1, inferInstance, inferInstance⟩
theorem end2_ok {p : Nat} {g : GW} {N : Nat} {a b : Sl} {K : Value → W} {F : List HProp} (hI : Inv g N) (hN : N ≤ 1000) (h : Ent F (K (.bool true))) :
    Ent (vr p 38 S_wicketlaw04_pair.c (pv g a b) :: sl cSl 40 a (g.kl.map (·.s)) :: sl cSl 40 b (g.kl.map (·.w)) :: bg klAt g.kl :: F) (nf3_2 K (.pointer (pt p)) (.int .i64 g.kl.length)) := by
  unfold nf3_2
  have h1 := hI.kl
  refine ent_loop0 (γ := Nat) (fun i => [.int .i64 i]) (fun i => i ≤ g.kl.length) (fun i => g.kl.length - i) 0 rfl (by omega) ?_
  intro i hi K1 j hK
  simp only [List.headD_cons] at *
  refine cs (fun h1 => ?_) (fun h1 => ?_)
  · have hi1 : i < g.kl.length := by omega
    have e1 : (g.kl.map (·.s)).getD i default = (g.kl.getD i default).s := getD_map' hi1
    have e2 : (g.kl.map (·.w)).getD i default = (g.kl.getD i default).w := getD_map' hi1
    haveI r1 : ∀ M, Rs (bg klAt g.kl :: M) (g.kl.getD i default).s cU8 (g.kl.getD i default).xs := fun M => rs_bg (f := klAt) (l := g.kl) (i := i) hi1 (fun M => ⟨fun h hs => (inferInstance : Rs (sl cU8 5 (g.kl.getD i default).s (g.kl.getD i default).xs :: sl cU8 5 (g.kl.getD i default).w (g.kl.getD i default).xs :: M) _ _ _).out h (sats_stars.1 hs)⟩) M
    haveI r2 : ∀ M, Rs (bg klAt g.kl :: M) (g.kl.getD i default).w cU8 (g.kl.getD i default).xs := fun M => rs_bg (f := klAt) (l := g.kl) (i := i) hi1 (fun M => ⟨fun h hs => (inferInstance : Rs (sl cU8 5 (g.kl.getD i default).s (g.kl.getD i default).xs :: sl cU8 5 (g.kl.getD i default).w (g.kl.getD i default).xs :: M) (g.kl.getD i default).w cU8 (g.kl.getD i default).xs).out h (sats_stars.1 hs)⟩) M
    (repeat (first | refine st ?_ | refine And.intro rfl ?_ | refine sc (by omega) ?_ | refine sc (by simp only [List.length_map, List.length_append, List.length_cons, List.length_nil, List.length_set, List.length_replicate, List.length_singleton] at *; omega) ?_ | refine sc (And.intro (by omega) trivial) ?_ | refine sc (And.intro rfl (Nat.le_of_ble_eq_true rfl)) ?_ | refine sc (And.intro (by simp only [List.length_map, List.length_append, List.length_cons, List.length_nil, List.length_set, List.length_replicate, List.length_singleton] at *; omega) trivial) ?_ | refine sc (by decide) ?_ | refine sc (fun _ => trivial) ?_ | refine And.intro (fun _ => rfl) ?_ | refine sc (fun _ => And.intro (by omega) trivial) ?_))
    rw [e1]
    (repeat (first | refine st ?_ | refine And.intro rfl ?_ | refine sc (by omega) ?_ | refine sc (by simp only [List.length_map, List.length_append, List.length_cons, List.length_nil, List.length_set, List.length_replicate, List.length_singleton] at *; omega) ?_ | refine sc (And.intro (by omega) trivial) ?_ | refine sc (And.intro rfl (Nat.le_of_ble_eq_true rfl)) ?_ | refine sc (And.intro (by simp only [List.length_map, List.length_append, List.length_cons, List.length_nil, List.length_set, List.length_replicate, List.length_singleton] at *; omega) trivial) ?_ | refine sc (by decide) ?_ | refine sc (fun _ => trivial) ?_ | refine And.intro (fun _ => rfl) ?_ | refine sc (fun _ => And.intro (by omega) trivial) ?_))
    rw [e2]
    (repeat (first | refine st ?_ | refine And.intro rfl ?_ | refine sc (by omega) ?_ | refine sc (by simp only [List.length_map, List.length_append, List.length_cons, List.length_nil, List.length_set, List.length_replicate, List.length_singleton] at *; omega) ?_ | refine sc (And.intro (by omega) trivial) ?_ | refine sc (And.intro rfl (Nat.le_of_ble_eq_true rfl)) ?_ | refine sc (And.intro (by simp only [List.length_map, List.length_append, List.length_cons, List.length_nil, List.length_set, List.length_replicate, List.length_singleton] at *; omega) trivial) ?_ | refine sc (by decide) ?_ | refine sc (fun _ => trivial) ?_ | refine And.intro (fun _ => rfl) ?_ | refine sc (fun _ => And.intro (by omega) trivial) ?_ | refine ct rfl ?_))
    exact hK (i + 1) hi1 (by omega)
  · (repeat (first | refine st ?_ | refine And.intro rfl ?_ | refine sc (by omega) ?_ | refine sc (by simp only [List.length_map, List.length_append, List.length_cons, List.length_nil, List.length_set, List.length_replicate, List.length_singleton] at *; omega) ?_ | refine sc (And.intro (by omega) trivial) ?_ | refine sc (And.intro rfl (Nat.le_of_ble_eq_true rfl)) ?_ | refine sc (And.intro (by simp only [List.length_map, List.length_append, List.length_cons, List.length_nil, List.length_set, List.length_replicate, List.length_singleton] at *; omega) trivial) ?_ | refine sc (by decide) ?_ | refine sc (fun _ => trivial) ?_ | refine And.intro (fun _ => rfl) ?_ | refine sc (fun _ => And.intro (by omega) trivial) ?_))
    exact inc h
theorem end_ok {p : Nat} {g : GW} {N : Nat} {K : Value → W} {F : List HProp} (hI : Inv g N) (hN : N ≤ 1000) (h : Ent F (K (.bool true))) : Ent (wAt p g :: F) (nf3_3 K (.pointer (pt p))) := by
  unfold nf3_3
  refine w_open fun a b => ?_
  refine ent_loop0 (γ := Nat) (fun i => [.int .i64 i]) (fun i => i ≤ 2) (fun i => 2 - i) 0 rfl (by omega) ?_
  intro i hi K1 j hK
  simp only [List.headD_cons] at *
  refine cs (fun h1 => ?_) (fun h1 => ?_)
  · have hi2 : i = 0 ∨ i = 1 := by omega
    rcases hi2 with rfl | rfl
    · obtain ⟨P, Q, m, G, hd, hr, hm, hn, i1, i2⟩ := side_ex (p := p) (a := a) (b := b) (F := F) hI (i := 0) (by omega)
      refine ent_pre i1.out ?_
      replace hK := hK (0 + 1) (by omega) (by omega)
      replace hK := ent_pre i2.out hK
      have hlw : (m.ws.map wOf).length ≤ 100000 := by rw [List.length_map]; omega
      have hml := hm.len
      refine ent_take (A := refAt Q m) (ref_open fun rs rw_ zs hz => ?_)
      (repeat (first | refine st ?_ | refine And.intro rfl ?_ | refine sc (by omega) ?_ | refine sc (by simp only [List.length_map, List.length_append, List.length_cons, List.length_nil, List.length_set, List.length_replicate, List.length_singleton] at *; omega) ?_ | refine sc (And.intro (by omega) trivial) ?_ | refine sc (And.intro rfl (Nat.le_of_ble_eq_true rfl)) ?_ | refine sc (And.intro (by simp only [List.length_map, List.length_append, List.length_cons, List.length_nil, List.length_set, List.length_replicate, List.length_singleton] at *; omega) trivial) ?_ | refine sc (by decide) ?_ | refine sc (fun _ => trivial) ?_ | refine And.intro (fun _ => rfl) ?_ | refine sc (fun _ => And.intro (by omega) trivial) ?_))
      rw [hr]
      (repeat (first | refine st ?_ | refine And.intro rfl ?_ | refine sc (by omega) ?_ | refine sc (by simp only [List.length_map, List.length_append, List.length_cons, List.length_nil, List.length_set, List.length_replicate, List.length_singleton] at *; omega) ?_ | refine sc (And.intro (by omega) trivial) ?_ | refine sc (And.intro rfl (Nat.le_of_ble_eq_true rfl)) ?_ | refine sc (And.intro (by simp only [List.length_map, List.length_append, List.length_cons, List.length_nil, List.length_set, List.length_replicate, List.length_singleton] at *; omega) trivial) ?_ | refine sc (by decide) ?_ | refine sc (fun _ => trivial) ?_ | refine And.intro (fun _ => rfl) ?_ | refine sc (fun _ => And.intro (by omega) trivial) ?_))
      rw [hd]
      refine ent_take (A := diskAt P m) (image_ok hml fun s1 => ?_)
      (repeat (first | refine st ?_ | refine And.intro rfl ?_ | refine sc (by omega) ?_ | refine sc (by simp only [List.length_map, List.length_append, List.length_cons, List.length_nil, List.length_set, List.length_replicate, List.length_singleton] at *; omega) ?_ | refine sc (And.intro (by omega) trivial) ?_ | refine sc (And.intro rfl (Nat.le_of_ble_eq_true rfl)) ?_ | refine sc (And.intro (by simp only [List.length_map, List.length_append, List.length_cons, List.length_nil, List.length_set, List.length_replicate, List.length_singleton] at *; omega) trivial) ?_ | refine sc (by decide) ?_ | refine sc (fun _ => trivial) ?_ | refine And.intro (fun _ => rfl) ?_ | refine sc (fun _ => And.intro (by omega) trivial) ?_ | refine And.intro (by show Value.pointer (pt Q) = Value.pointer ((pv g a b).r.get 0); rw [hr]) ?_))
      refine ct rfl ?_
      (repeat (first | refine st ?_ | refine And.intro rfl ?_ | refine sc (by omega) ?_ | refine sc (by simp only [List.length_map, List.length_append, List.length_cons, List.length_nil, List.length_set, List.length_replicate, List.length_singleton] at *; omega) ?_ | refine sc (And.intro (by omega) trivial) ?_ | refine sc (And.intro rfl (Nat.le_of_ble_eq_true rfl)) ?_ | refine sc (And.intro (by simp only [List.length_map, List.length_append, List.length_cons, List.length_nil, List.length_set, List.length_replicate, List.length_singleton] at *; omega) trivial) ?_ | refine sc (by decide) ?_ | refine sc (fun _ => trivial) ?_ | refine And.intro (fun _ => rfl) ?_ | refine sc (fun _ => And.intro (by omega) trivial) ?_))
      rw [hr]
      (repeat (first | refine st ?_ | refine And.intro rfl ?_ | refine sc (by omega) ?_ | refine sc (by simp only [List.length_map, List.length_append, List.length_cons, List.length_nil, List.length_set, List.length_replicate, List.length_singleton] at *; omega) ?_ | refine sc (And.intro (by omega) trivial) ?_ | refine sc (And.intro rfl (Nat.le_of_ble_eq_true rfl)) ?_ | refine sc (And.intro (by simp only [List.length_map, List.length_append, List.length_cons, List.length_nil, List.length_set, List.length_replicate, List.length_singleton] at *; omega) trivial) ?_ | refine sc (by decide) ?_ | refine sc (fun _ => trivial) ?_ | refine And.intro (fun _ => rfl) ?_ | refine sc (fun _ => And.intro (by omega) trivial) ?_))
      rw [hd]
      refine ent_take (A := diskAt P m) (waiting_ok hm fun t1 => ?_)
      (repeat (first | refine st ?_ | refine And.intro rfl ?_ | refine sc (by omega) ?_ | refine sc (by simp only [List.length_map, List.length_append, List.length_cons, List.length_nil, List.length_set, List.length_replicate, List.length_singleton] at *; omega) ?_ | refine sc (And.intro (by omega) trivial) ?_ | refine sc (And.intro rfl (Nat.le_of_ble_eq_true rfl)) ?_ | refine sc (And.intro (by simp only [List.length_map, List.length_append, List.length_cons, List.length_nil, List.length_set, List.length_replicate, List.length_singleton] at *; omega) trivial) ?_ | refine sc (by decide) ?_ | refine sc (fun _ => trivial) ?_ | refine And.intro (fun _ => rfl) ?_ | refine sc (fun _ => And.intro (by omega) trivial) ?_ | refine And.intro (fun _ => by show Value.pointer (pt Q) = Value.pointer ((pv g a b).r.get 0); rw [hr]) ?_))
      refine (ent_take (A := bg rp zs) (ent_take (A := sl S_wicketref04_Write.c 69 rw_ (zs.map (·.1))) (ent_take (A := vr Q 47 S_wicketref04_Disk.c ⟨rs, rw_⟩) (ent_take (A := toldAt t1 (m.ws.map wOf)) (told_same hlw hz ?_)))))
      (repeat (first | refine st ?_ | refine And.intro rfl ?_ | refine sc (by omega) ?_ | refine sc (by simp only [List.length_map, List.length_append, List.length_cons, List.length_nil, List.length_set, List.length_replicate, List.length_singleton] at *; omega) ?_ | refine sc (And.intro (by omega) trivial) ?_ | refine sc (And.intro rfl (Nat.le_of_ble_eq_true rfl)) ?_ | refine sc (And.intro (by simp only [List.length_map, List.length_append, List.length_cons, List.length_nil, List.length_set, List.length_replicate, List.length_singleton] at *; omega) trivial) ?_ | refine sc (by decide) ?_ | refine sc (fun _ => trivial) ?_ | refine And.intro (fun _ => rfl) ?_ | refine sc (fun _ => And.intro (by omega) trivial) ?_))
      refine (ent_take (A := bg rp zs) (ent_take (A := sl S_wicketref04_Write.c 69 rw_ (zs.map (·.1))) (ent_take (A := sl cU8 5 rs (fl m.dur)) (ent_take (A := vr Q 47 S_wicketref04_Disk.c ⟨rs, rw_⟩) (ref_shut hz ?_)))))
      exact inc hK
    · obtain ⟨P, Q, m, G, hd, hr, hm, hn, i1, i2⟩ := side_ex (p := p) (a := a) (b := b) (F := F) hI (i := 1) (by omega)
      refine ent_pre i1.out ?_
      replace hK := hK (1 + 1) (by omega) (by omega)
      replace hK := ent_pre i2.out hK
      have hlw : (m.ws.map wOf).length ≤ 100000 := by rw [List.length_map]; omega
      have hml := hm.len
      refine ent_take (A := refAt Q m) (ref_open fun rs rw_ zs hz => ?_)
      (repeat (first | refine st ?_ | refine And.intro rfl ?_ | refine sc (by omega) ?_ | refine sc (by simp only [List.length_map, List.length_append, List.length_cons, List.length_nil, List.length_set, List.length_replicate, List.length_singleton] at *; omega) ?_ | refine sc (And.intro (by omega) trivial) ?_ | refine sc (And.intro rfl (Nat.le_of_ble_eq_true rfl)) ?_ | refine sc (And.intro (by simp only [List.length_map, List.length_append, List.length_cons, List.length_nil, List.length_set, List.length_replicate, List.length_singleton] at *; omega) trivial) ?_ | refine sc (by decide) ?_ | refine sc (fun _ => trivial) ?_ | refine And.intro (fun _ => rfl) ?_ | refine sc (fun _ => And.intro (by omega) trivial) ?_))
      rw [hr]
      (repeat (first | refine st ?_ | refine And.intro rfl ?_ | refine sc (by omega) ?_ | refine sc (by simp only [List.length_map, List.length_append, List.length_cons, List.length_nil, List.length_set, List.length_replicate, List.length_singleton] at *; omega) ?_ | refine sc (And.intro (by omega) trivial) ?_ | refine sc (And.intro rfl (Nat.le_of_ble_eq_true rfl)) ?_ | refine sc (And.intro (by simp only [List.length_map, List.length_append, List.length_cons, List.length_nil, List.length_set, List.length_replicate, List.length_singleton] at *; omega) trivial) ?_ | refine sc (by decide) ?_ | refine sc (fun _ => trivial) ?_ | refine And.intro (fun _ => rfl) ?_ | refine sc (fun _ => And.intro (by omega) trivial) ?_))
      rw [hd]
      refine ent_take (A := diskAt P m) (image_ok hml fun s1 => ?_)
      (repeat (first | refine st ?_ | refine And.intro rfl ?_ | refine sc (by omega) ?_ | refine sc (by simp only [List.length_map, List.length_append, List.length_cons, List.length_nil, List.length_set, List.length_replicate, List.length_singleton] at *; omega) ?_ | refine sc (And.intro (by omega) trivial) ?_ | refine sc (And.intro rfl (Nat.le_of_ble_eq_true rfl)) ?_ | refine sc (And.intro (by simp only [List.length_map, List.length_append, List.length_cons, List.length_nil, List.length_set, List.length_replicate, List.length_singleton] at *; omega) trivial) ?_ | refine sc (by decide) ?_ | refine sc (fun _ => trivial) ?_ | refine And.intro (fun _ => rfl) ?_ | refine sc (fun _ => And.intro (by omega) trivial) ?_ | refine And.intro (by show Value.pointer (pt Q) = Value.pointer ((pv g a b).r.get 1); rw [hr]) ?_))
      refine ct rfl ?_
      (repeat (first | refine st ?_ | refine And.intro rfl ?_ | refine sc (by omega) ?_ | refine sc (by simp only [List.length_map, List.length_append, List.length_cons, List.length_nil, List.length_set, List.length_replicate, List.length_singleton] at *; omega) ?_ | refine sc (And.intro (by omega) trivial) ?_ | refine sc (And.intro rfl (Nat.le_of_ble_eq_true rfl)) ?_ | refine sc (And.intro (by simp only [List.length_map, List.length_append, List.length_cons, List.length_nil, List.length_set, List.length_replicate, List.length_singleton] at *; omega) trivial) ?_ | refine sc (by decide) ?_ | refine sc (fun _ => trivial) ?_ | refine And.intro (fun _ => rfl) ?_ | refine sc (fun _ => And.intro (by omega) trivial) ?_))
      rw [hr]
      (repeat (first | refine st ?_ | refine And.intro rfl ?_ | refine sc (by omega) ?_ | refine sc (by simp only [List.length_map, List.length_append, List.length_cons, List.length_nil, List.length_set, List.length_replicate, List.length_singleton] at *; omega) ?_ | refine sc (And.intro (by omega) trivial) ?_ | refine sc (And.intro rfl (Nat.le_of_ble_eq_true rfl)) ?_ | refine sc (And.intro (by simp only [List.length_map, List.length_append, List.length_cons, List.length_nil, List.length_set, List.length_replicate, List.length_singleton] at *; omega) trivial) ?_ | refine sc (by decide) ?_ | refine sc (fun _ => trivial) ?_ | refine And.intro (fun _ => rfl) ?_ | refine sc (fun _ => And.intro (by omega) trivial) ?_))
      rw [hd]
      refine ent_take (A := diskAt P m) (waiting_ok hm fun t1 => ?_)
      (repeat (first | refine st ?_ | refine And.intro rfl ?_ | refine sc (by omega) ?_ | refine sc (by simp only [List.length_map, List.length_append, List.length_cons, List.length_nil, List.length_set, List.length_replicate, List.length_singleton] at *; omega) ?_ | refine sc (And.intro (by omega) trivial) ?_ | refine sc (And.intro rfl (Nat.le_of_ble_eq_true rfl)) ?_ | refine sc (And.intro (by simp only [List.length_map, List.length_append, List.length_cons, List.length_nil, List.length_set, List.length_replicate, List.length_singleton] at *; omega) trivial) ?_ | refine sc (by decide) ?_ | refine sc (fun _ => trivial) ?_ | refine And.intro (fun _ => rfl) ?_ | refine sc (fun _ => And.intro (by omega) trivial) ?_ | refine And.intro (fun _ => by show Value.pointer (pt Q) = Value.pointer ((pv g a b).r.get 1); rw [hr]) ?_))
      refine (ent_take (A := bg rp zs) (ent_take (A := sl S_wicketref04_Write.c 69 rw_ (zs.map (·.1))) (ent_take (A := vr Q 47 S_wicketref04_Disk.c ⟨rs, rw_⟩) (ent_take (A := toldAt t1 (m.ws.map wOf)) (told_same hlw hz ?_)))))
      (repeat (first | refine st ?_ | refine And.intro rfl ?_ | refine sc (by omega) ?_ | refine sc (by simp only [List.length_map, List.length_append, List.length_cons, List.length_nil, List.length_set, List.length_replicate, List.length_singleton] at *; omega) ?_ | refine sc (And.intro (by omega) trivial) ?_ | refine sc (And.intro rfl (Nat.le_of_ble_eq_true rfl)) ?_ | refine sc (And.intro (by simp only [List.length_map, List.length_append, List.length_cons, List.length_nil, List.length_set, List.length_replicate, List.length_singleton] at *; omega) trivial) ?_ | refine sc (by decide) ?_ | refine sc (fun _ => trivial) ?_ | refine And.intro (fun _ => rfl) ?_ | refine sc (fun _ => And.intro (by omega) trivial) ?_))
      refine (ent_take (A := bg rp zs) (ent_take (A := sl S_wicketref04_Write.c 69 rw_ (zs.map (·.1))) (ent_take (A := sl cU8 5 rs (fl m.dur)) (ent_take (A := vr Q 47 S_wicketref04_Disk.c ⟨rs, rw_⟩) (ref_shut hz ?_)))))
      exact inc hK
  · (repeat (first | refine st ?_ | refine And.intro rfl ?_ | refine sc (by omega) ?_ | refine sc (by simp only [List.length_map, List.length_append, List.length_cons, List.length_nil, List.length_set, List.length_replicate, List.length_singleton] at *; omega) ?_ | refine sc (And.intro (by omega) trivial) ?_ | refine sc (And.intro rfl (Nat.le_of_ble_eq_true rfl)) ?_ | refine sc (And.intro (by simp only [List.length_map, List.length_append, List.length_cons, List.length_nil, List.length_set, List.length_replicate, List.length_singleton] at *; omega) trivial) ?_ | refine sc (by decide) ?_ | refine sc (fun _ => trivial) ?_ | refine And.intro (fun _ => rfl) ?_ | refine sc (fun _ => And.intro (by omega) trivial) ?_))
    rw [List.length_map]
    exact inc (end2_ok (a := a) (b := b) (F := F) hI hN h)
theorem main_ok {h0 : Hp} {n : Int} {scr : Sl} {ops : List S_wicketlaw04_Op} {K : Value → W} {F : List HProp} [ho : HasOwn F h0] [rs : RdB h0 scr S_wicketlaw04_Op.c ops] (hG : ∀ x ∈ ops, S_wicketlaw04_Op.G h0 x)
    (hl : ops.length ≤ 9223372036854775807) (hn : -9223372036854775808 ≤ n ∧ n ≤ 9223372036854775807) (h : Ent F (K (.bool true))) : Ent F (callC Try.prog 3 [.int .i64 n, sv scr] K) := by
  refine ent_mono ?_ fun w => nf3_ok
  unfold nf3
  refine awake_ok ?_
  (repeat (first | refine st ?_ | refine And.intro rfl ?_ | refine sc (by omega) ?_ | refine sc (by simp only [List.length_map, List.length_append, List.length_cons, List.length_nil, List.length_set, List.length_replicate, List.length_singleton] at *; omega) ?_ | refine sc (And.intro (by omega) trivial) ?_ | refine sc (And.intro rfl (Nat.le_of_ble_eq_true rfl)) ?_ | refine sc (And.intro (by simp only [List.length_map, List.length_append, List.length_cons, List.length_nil, List.length_set, List.length_replicate, List.length_singleton] at *; omega) trivial) ?_ | refine sc (by decide) ?_ | refine sc (fun _ => trivial) ?_ | refine And.intro (fun _ => rfl) ?_ | refine sc (fun _ => And.intro (by omega) trivial) ?_))
  have main : ∀ k : Int, Ent F (nf3_1 K (sv scr) (.int .i64 k)) := by
    intro k
    unfold nf3_1
    by_cases hk : 1 ≤ k ∧ k ≤ 4096
    · have hm : DOk ⟨List.replicate k.toNat zA, []⟩ := ⟨by show (List.replicate k.toNat zA).length ≤ 4096; rw [List.length_replicate]; omega, by show 1 ≤ (List.replicate k.toNat zA).length; rw [List.length_replicate]; omega, Nat.zero_le _, fun w hw => absurd hw List.not_mem_nil⟩
      refine new_ok (fun _ p0 => ?_) (fun hc => absurd hk hc)
      (repeat (first | refine st ?_ | refine And.intro rfl ?_ | refine sc (by omega) ?_ | refine sc (by simp only [List.length_map, List.length_append, List.length_cons, List.length_nil, List.length_set, List.length_replicate, List.length_singleton] at *; omega) ?_ | refine sc (And.intro (by omega) trivial) ?_ | refine sc (And.intro rfl (Nat.le_of_ble_eq_true rfl)) ?_ | refine sc (And.intro (by simp only [List.length_map, List.length_append, List.length_cons, List.length_nil, List.length_set, List.length_replicate, List.length_singleton] at *; omega) trivial) ?_ | refine sc (by decide) ?_ | refine sc (fun _ => trivial) ?_ | refine And.intro (fun _ => rfl) ?_ | refine sc (fun _ => And.intro (by omega) trivial) ?_))
      refine refNew_ok (fun _ q0 => ?_) (fun hc => absurd hk hc)
      (repeat (first | refine st ?_ | refine And.intro rfl ?_ | refine sc (by omega) ?_ | refine sc (by simp only [List.length_map, List.length_append, List.length_cons, List.length_nil, List.length_set, List.length_replicate, List.length_singleton] at *; omega) ?_ | refine sc (And.intro (by omega) trivial) ?_ | refine sc (And.intro rfl (Nat.le_of_ble_eq_true rfl)) ?_ | refine sc (And.intro (by simp only [List.length_map, List.length_append, List.length_cons, List.length_nil, List.length_set, List.length_replicate, List.length_singleton] at *; omega) trivial) ?_ | refine sc (by decide) ?_ | refine sc (fun _ => trivial) ?_ | refine And.intro (fun _ => rfl) ?_ | refine sc (fun _ => And.intro (by omega) trivial) ?_ | refine ct rfl ?_))
      refine ent_take (A := diskAt p0 ⟨List.replicate k.toNat zA, []⟩) (copy_ok hm fun p1 => ?_)
      (repeat (first | refine st ?_ | refine And.intro rfl ?_ | refine sc (by omega) ?_ | refine sc (by simp only [List.length_map, List.length_append, List.length_cons, List.length_nil, List.length_set, List.length_replicate, List.length_singleton] at *; omega) ?_ | refine sc (And.intro (by omega) trivial) ?_ | refine sc (And.intro rfl (Nat.le_of_ble_eq_true rfl)) ?_ | refine sc (And.intro (by simp only [List.length_map, List.length_append, List.length_cons, List.length_nil, List.length_set, List.length_replicate, List.length_singleton] at *; omega) trivial) ?_ | refine sc (by decide) ?_ | refine sc (fun _ => trivial) ?_ | refine And.intro (fun _ => rfl) ?_ | refine sc (fun _ => And.intro (by omega) trivial) ?_))
      refine ent_take (A := refAt q0 ⟨List.replicate k.toNat zA, []⟩) (refCopy_ok hm fun q1 => ?_)
      (repeat (first | refine st ?_ | refine And.intro rfl ?_ | refine sc (by omega) ?_ | refine sc (by simp only [List.length_map, List.length_append, List.length_cons, List.length_nil, List.length_set, List.length_replicate, List.length_singleton] at *; omega) ?_ | refine sc (And.intro (by omega) trivial) ?_ | refine sc (And.intro rfl (Nat.le_of_ble_eq_true rfl)) ?_ | refine sc (And.intro (by simp only [List.length_map, List.length_append, List.length_cons, List.length_nil, List.length_set, List.length_replicate, List.length_singleton] at *; omega) trivial) ?_ | refine sc (by decide) ?_ | refine sc (fun _ => trivial) ?_ | refine And.intro (fun _ => rfl) ?_ | refine sc (fun _ => And.intro (by omega) trivial) ?_))
      intro p
      change Ent (vr p 38 S_wicketlaw04_pair.c ⟨⟨[pt p0, pt p1], rfl⟩, ⟨[pt q0, pt q1], rfl⟩, Sl.nil, Sl.nil⟩ :: _) _
      (repeat (first | refine st ?_ | refine And.intro rfl ?_ | refine sc (by omega) ?_ | refine sc (by simp only [List.length_map, List.length_append, List.length_cons, List.length_nil, List.length_set, List.length_replicate, List.length_singleton] at *; omega) ?_ | refine sc (And.intro (by omega) trivial) ?_ | refine sc (And.intro rfl (Nat.le_of_ble_eq_true rfl)) ?_ | refine sc (And.intro (by simp only [List.length_map, List.length_append, List.length_cons, List.length_nil, List.length_set, List.length_replicate, List.length_singleton] at *; omega) trivial) ?_ | refine sc (by decide) ?_ | refine sc (fun _ => trivial) ?_ | refine And.intro (fun _ => rfl) ?_ | refine sc (fun _ => And.intro (by omega) trivial) ?_))
      simp only [Arr.get1]
      (repeat (first | refine st ?_ | refine And.intro rfl ?_ | refine sc (by omega) ?_ | refine sc (by simp only [List.length_map, List.length_append, List.length_cons, List.length_nil, List.length_set, List.length_replicate, List.length_singleton] at *; omega) ?_ | refine sc (And.intro (by omega) trivial) ?_ | refine sc (And.intro rfl (Nat.le_of_ble_eq_true rfl)) ?_ | refine sc (And.intro (by simp only [List.length_map, List.length_append, List.length_cons, List.length_nil, List.length_set, List.length_replicate, List.length_singleton] at *; omega) trivial) ?_ | refine sc (by decide) ?_ | refine sc (fun _ => trivial) ?_ | refine And.intro (fun _ => rfl) ?_ | refine sc (fun _ => And.intro (by omega) trivial) ?_))
      let g : GW := ⟨⟨p0, q0, ⟨List.replicate k.toNat zA, []⟩⟩, ⟨p1, q1, ⟨List.replicate k.toNat zA, []⟩⟩, []⟩
      have hI : Inv g 0 := ⟨hm, hm, Nat.zero_le _, Nat.zero_le _, Nat.zero_le _, fun x hx => absurd hx List.not_mem_nil⟩
      refine ent_nil cSl 40 (ent_nil cSl 40 (bg_nil klAt ?_))
      refine inc (M := vr p 38 S_wicketlaw04_pair.c (pv g Sl.nil Sl.nil) :: sl cSl 40 Sl.nil [] :: sl cSl 40 Sl.nil [] :: bg klAt [] :: diskAt p0 ⟨List.replicate k.toNat zA, []⟩ :: refAt q0 ⟨List.replicate k.toNat zA, []⟩ :: diskAt p1 ⟨List.replicate k.toNat zA, []⟩ :: refAt q1 ⟨List.replicate k.toNat zA, []⟩ :: F) ?_
      refine w_shut (g := g) ?_
      refine ent_loop1 (γ := Nat × GW) (fun t => [.int .i64 t.1]) (fun t => wAt p t.2) (fun t => t.1 ≤ ops.length ∧ t.1 ≤ 100 ∧ Inv t.2 t.1) (fun t => ops.length - t.1) (0, g) rfl ⟨by simp, by simp, hI⟩ ?_
      intro ⟨i, t⟩ ⟨hi, hi2, ht⟩ K1 j hK
      simp only [List.headD_cons] at *
      (repeat (first | refine st ?_ | refine And.intro rfl ?_ | refine sc (by omega) ?_ | refine sc (by simp only [List.length_map, List.length_append, List.length_cons, List.length_nil, List.length_set, List.length_replicate, List.length_singleton] at *; omega) ?_ | refine sc (And.intro (by omega) trivial) ?_ | refine sc (And.intro rfl (Nat.le_of_ble_eq_true rfl)) ?_ | refine sc (And.intro (by simp only [List.length_map, List.length_append, List.length_cons, List.length_nil, List.length_set, List.length_replicate, List.length_singleton] at *; omega) trivial) ?_ | refine sc (by decide) ?_ | refine sc (fun _ => trivial) ?_ | refine And.intro (fun _ => rfl) ?_ | refine sc (fun _ => And.intro (by omega) trivial) ?_))
      refine cs (fun h1 => ?_) (fun h1 => ?_)
      · (repeat (first | refine st ?_ | refine And.intro rfl ?_ | refine sc (by omega) ?_ | refine sc (by simp only [List.length_map, List.length_append, List.length_cons, List.length_nil, List.length_set, List.length_replicate, List.length_singleton] at *; omega) ?_ | refine sc (And.intro (by omega) trivial) ?_ | refine sc (And.intro rfl (Nat.le_of_ble_eq_true rfl)) ?_ | refine sc (And.intro (by simp only [List.length_map, List.length_append, List.length_cons, List.length_nil, List.length_set, List.length_replicate, List.length_singleton] at *; omega) trivial) ?_ | refine sc (by decide) ?_ | refine sc (fun _ => trivial) ?_ | refine And.intro (fun _ => rfl) ?_ | refine sc (fun _ => And.intro (by omega) trivial) ?_))
        refine cs (fun h2 => ?_) (fun h2 => ?_)
        · (repeat (first | refine st ?_ | refine And.intro rfl ?_ | refine sc (by omega) ?_ | refine sc (by simp only [List.length_map, List.length_append, List.length_cons, List.length_nil, List.length_set, List.length_replicate, List.length_singleton] at *; omega) ?_ | refine sc (And.intro (by omega) trivial) ?_ | refine sc (And.intro rfl (Nat.le_of_ble_eq_true rfl)) ?_ | refine sc (And.intro (by simp only [List.length_map, List.length_append, List.length_cons, List.length_nil, List.length_set, List.length_replicate, List.length_singleton] at *; omega) trivial) ?_ | refine sc (by decide) ?_ | refine sc (fun _ => trivial) ?_ | refine And.intro (fun _ => rfl) ?_ | refine sc (fun _ => And.intro (by omega) trivial) ?_))
          refine plays_ok (hG _ (getD_mem (by omega))) ht (by omega) fun g' h' => ?_
          (repeat (first | refine st ?_ | refine And.intro rfl ?_ | refine sc (by omega) ?_ | refine sc (by simp only [List.length_map, List.length_append, List.length_cons, List.length_nil, List.length_set, List.length_replicate, List.length_singleton] at *; omega) ?_ | refine sc (And.intro (by omega) trivial) ?_ | refine sc (And.intro rfl (Nat.le_of_ble_eq_true rfl)) ?_ | refine sc (And.intro (by simp only [List.length_map, List.length_append, List.length_cons, List.length_nil, List.length_set, List.length_replicate, List.length_singleton] at *; omega) trivial) ?_ | refine sc (by decide) ?_ | refine sc (fun _ => trivial) ?_ | refine And.intro (fun _ => rfl) ?_ | refine sc (fun _ => And.intro (by omega) trivial) ?_))
          exact hK (i + 1, g') ⟨by show i + 1 ≤ _; omega, by show i + 1 ≤ 100; omega, h'⟩ (by show _ - (i + 1) < _; omega)
        · (repeat (first | refine st ?_ | refine And.intro rfl ?_ | refine sc (by omega) ?_ | refine sc (by simp only [List.length_map, List.length_append, List.length_cons, List.length_nil, List.length_set, List.length_replicate, List.length_singleton] at *; omega) ?_ | refine sc (And.intro (by omega) trivial) ?_ | refine sc (And.intro rfl (Nat.le_of_ble_eq_true rfl)) ?_ | refine sc (And.intro (by simp only [List.length_map, List.length_append, List.length_cons, List.length_nil, List.length_set, List.length_replicate, List.length_singleton] at *; omega) trivial) ?_ | refine sc (by decide) ?_ | refine sc (fun _ => trivial) ?_ | refine And.intro (fun _ => rfl) ?_ | refine sc (fun _ => And.intro (by omega) trivial) ?_))
          exact end_ok ht (by omega) h
      · (repeat (first | refine st ?_ | refine And.intro rfl ?_ | refine sc (by omega) ?_ | refine sc (by simp only [List.length_map, List.length_append, List.length_cons, List.length_nil, List.length_set, List.length_replicate, List.length_singleton] at *; omega) ?_ | refine sc (And.intro (by omega) trivial) ?_ | refine sc (And.intro rfl (Nat.le_of_ble_eq_true rfl)) ?_ | refine sc (And.intro (by simp only [List.length_map, List.length_append, List.length_cons, List.length_nil, List.length_set, List.length_replicate, List.length_singleton] at *; omega) trivial) ?_ | refine sc (by decide) ?_ | refine sc (fun _ => trivial) ?_ | refine And.intro (fun _ => rfl) ?_ | refine sc (fun _ => And.intro (by omega) trivial) ?_))
        exact end_ok ht (by omega) h
    · refine new_ok (fun hc => absurd hc hk) (fun _ => ?_)
      (repeat (first | refine st ?_ | refine And.intro rfl ?_ | refine sc (by omega) ?_ | refine sc (by simp only [List.length_map, List.length_append, List.length_cons, List.length_nil, List.length_set, List.length_replicate, List.length_singleton] at *; omega) ?_ | refine sc (And.intro (by omega) trivial) ?_ | refine sc (And.intro rfl (Nat.le_of_ble_eq_true rfl)) ?_ | refine sc (And.intro (by simp only [List.length_map, List.length_append, List.length_cons, List.length_nil, List.length_set, List.length_replicate, List.length_singleton] at *; omega) trivial) ?_ | refine sc (by decide) ?_ | refine sc (fun _ => trivial) ?_ | refine And.intro (fun _ => rfl) ?_ | refine sc (fun _ => And.intro (by omega) trivial) ?_))
      refine refNew_ok (fun hc => absurd hc hk) (fun _ => ?_)
      (repeat (first | refine st ?_ | refine And.intro rfl ?_ | refine sc (by omega) ?_ | refine sc (by simp only [List.length_map, List.length_append, List.length_cons, List.length_nil, List.length_set, List.length_replicate, List.length_singleton] at *; omega) ?_ | refine sc (And.intro (by omega) trivial) ?_ | refine sc (And.intro rfl (Nat.le_of_ble_eq_true rfl)) ?_ | refine sc (And.intro (by simp only [List.length_map, List.length_append, List.length_cons, List.length_nil, List.length_set, List.length_replicate, List.length_singleton] at *; omega) trivial) ?_ | refine sc (by decide) ?_ | refine sc (fun _ => trivial) ?_ | refine And.intro (fun _ => rfl) ?_ | refine sc (fun _ => And.intro (by omega) trivial) ?_ | refine ct rfl ?_))
      exact h
  refine cs (fun h1 => ?_) (fun h1 => ?_)
  · obtain ⟨w1, w2⟩ := tmod_bound (a := n) (b := 64) (by omega)
    (repeat (first | refine st ?_ | refine And.intro rfl ?_ | refine sc (by omega) ?_ | refine sc (by simp only [List.length_map, List.length_append, List.length_cons, List.length_nil, List.length_set, List.length_replicate, List.length_singleton] at *; omega) ?_ | refine sc (And.intro (by omega) trivial) ?_ | refine sc (And.intro rfl (Nat.le_of_ble_eq_true rfl)) ?_ | refine sc (And.intro (by simp only [List.length_map, List.length_append, List.length_cons, List.length_nil, List.length_set, List.length_replicate, List.length_singleton] at *; omega) trivial) ?_ | refine sc (by decide) ?_ | refine sc (fun _ => trivial) ?_ | refine And.intro (fun _ => rfl) ?_ | refine sc (fun _ => And.intro (by omega) trivial) ?_))
    exact main _
  · (repeat (first | refine st ?_ | refine And.intro rfl ?_ | refine sc (by omega) ?_ | refine sc (by simp only [List.length_map, List.length_append, List.length_cons, List.length_nil, List.length_set, List.length_replicate, List.length_singleton] at *; omega) ?_ | refine sc (And.intro (by omega) trivial) ?_ | refine sc (And.intro rfl (Nat.le_of_ble_eq_true rfl)) ?_ | refine sc (And.intro (by simp only [List.length_map, List.length_append, List.length_cons, List.length_nil, List.length_set, List.length_replicate, List.length_singleton] at *; omega) trivial) ?_ | refine sc (by decide) ?_ | refine sc (fun _ => trivial) ?_ | refine And.intro (fun _ => rfl) ?_ | refine sc (fun _ => And.intro (by omega) trivial) ?_))
    exact main _
end Go.Proofs.Ytkopggalogppcaa
