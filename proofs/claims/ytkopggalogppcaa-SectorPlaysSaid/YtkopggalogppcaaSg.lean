/- Loading; what waits, told; lists of writes apart. -/
import Derived.Test.YtkopggalogppcaaSf
namespace Go.Proofs.Ytkopggalogppcaa
set_option linter.unusedSimpArgs false
set_option linter.unusedVariables false
open Go.Dn
set_option linter.unusedSectionVars false
set_option synthInstance.maxSize 10000
set_option synthInstance.maxHeartbeats 400000
set_option maxHeartbeats 2000000
variable [sd : Side]
abbrev TW := S_sector_Write × List UInt8
def tOf (x : TW) : IB := (x.1.Sector, x.2)
def tp (x : TW) : HProp := sl cU8 5 x.1.Data x.2
instance : Inhabited TW := ⟨(default, [])⟩
def toldAt (s : Sl) (l : List IB) : HProp := fun h => ∃ zs : List TW, zs.map tOf = l ∧ stars [sl S_sector_Write.c 81 s (zs.map (·.1)), bg tp zs] h
section
variable {p : Nat} {m : DM} {K : Value → W} {F : List HProp} {φ : W}
theorem told_open {s : Sl} {l : List IB} (h : ∀ zs, zs.map tOf = l → Ent (sl S_sector_Write.c 81 s (zs.map (·.1)) :: bg tp zs :: F) φ) : Ent (toldAt s l :: F) φ := fun w0 hw => by
  obtain ⟨⟨h1, h2, d, e1, ⟨zs, hz, ha⟩, hL⟩, hside⟩ := hw
  exact h zs hz w0 ⟨sats_stars.1 ⟨h1, h2, d, e1, ha, hL⟩, hside⟩
theorem told_shut {s : Sl} {l : List IB} {zs : List TW} (hz : zs.map tOf = l) (h : Ent (toldAt s l :: F) φ) : Ent (sl S_sector_Write.c 81 s (zs.map (·.1)) :: bg tp zs :: F) φ :=
  ent_shut (M := [_, _]) (fun _ h => ⟨zs, hz, h⟩) h
theorem tmod64 {n : Nat} : ((n * 64 : Nat) : Int).tmod 64 = 0 := by
  rw [Int.tmod_eq_emod_of_nonneg (by omega)]; omega
theorem load_ok {s : Sl} {d : List A64} [rs : Rs F s cU8 (fl d)] (h1 : 1 ≤ d.length) (h2 : d.length ≤ 4096) (hcap : (fl d).length ≤ s.cap) (h : ∀ p, Ent (diskAt p ⟨d, []⟩ :: F) (K (.tuple #[.pointer (pt p), .int .i64 0]))) : Ent F (callC Try.prog 30 [sv s] K) := by
  refine ent_mono ?_ fun w => nf30_ok
  unfold nf30
  have hfl := fl_len (d := d)
  refine st ?_
  rw [hfl]
  refine sc ⟨by omega, by rw [tdiv64]; omega, by rw [tdiv64]; omega⟩ ?_
  rw [tdiv64]
  refine cf (by omega) ?_
  (repeat (first | refine st ?_ | refine And.intro rfl ?_ | refine sc (by omega) ?_ | refine sc (by simp only [List.length_map, List.length_append, List.length_cons, List.length_nil, List.length_set, List.length_replicate, List.length_singleton] at *; omega) ?_ | refine sc (And.intro (by omega) trivial) ?_ | refine sc (And.intro rfl (Nat.le_of_ble_eq_true rfl)) ?_ | refine sc (And.intro (by simp only [List.length_map, List.length_append, List.length_cons, List.length_nil, List.length_set, List.length_replicate, List.length_singleton] at *; omega) trivial) ?_ | refine sc (by decide) ?_ | refine sc (fun _ => trivial) ?_ | refine And.intro (fun _ => rfl) ?_ | refine sc (fun _ => And.intro (by omega) trivial) ?_))
  refine cf (by omega) ?_
  (repeat (first | refine st ?_ | refine And.intro rfl ?_ | refine sc (by omega) ?_ | refine sc (by simp only [List.length_map, List.length_append, List.length_cons, List.length_nil, List.length_set, List.length_replicate, List.length_singleton] at *; omega) ?_ | refine sc (And.intro (by omega) trivial) ?_ | refine sc (And.intro rfl (Nat.le_of_ble_eq_true rfl)) ?_ | refine sc (And.intro (by simp only [List.length_map, List.length_append, List.length_cons, List.length_nil, List.length_set, List.length_replicate, List.length_singleton] at *; omega) trivial) ?_ | refine sc (by decide) ?_ | refine sc (fun _ => trivial) ?_ | refine And.intro (fun _ => rfl) ?_ | refine sc (fun _ => And.intro (by omega) trivial) ?_))
  rw [hfl, tmod64]
  refine ct rfl ?_
  (repeat (first | refine st ?_ | refine And.intro rfl ?_ | refine sc (by omega) ?_ | refine sc (by simp only [List.length_map, List.length_append, List.length_cons, List.length_nil, List.length_set, List.length_replicate, List.length_singleton] at *; omega) ?_ | refine sc (And.intro (by omega) trivial) ?_ | refine sc (And.intro rfl (Nat.le_of_ble_eq_true rfl)) ?_ | refine sc (And.intro (by simp only [List.length_map, List.length_append, List.length_cons, List.length_nil, List.length_set, List.length_replicate, List.length_singleton] at *; omega) trivial) ?_ | refine sc (by decide) ?_ | refine sc (fun _ => trivial) ?_ | refine And.intro (fun _ => rfl) ?_ | refine sc (fun _ => And.intro (by omega) trivial) ?_))
  intro s1
  (repeat (first | refine st ?_ | refine And.intro rfl ?_ | refine sc (by omega) ?_ | refine sc (by simp only [List.length_map, List.length_append, List.length_cons, List.length_nil, List.length_set, List.length_replicate, List.length_singleton] at *; omega) ?_ | refine sc (And.intro (by omega) trivial) ?_ | refine sc (And.intro rfl (Nat.le_of_ble_eq_true rfl)) ?_ | refine sc (And.intro (by simp only [List.length_map, List.length_append, List.length_cons, List.length_nil, List.length_set, List.length_replicate, List.length_singleton] at *; omega) trivial) ?_ | refine sc (by decide) ?_ | refine sc (fun _ => trivial) ?_ | refine And.intro (fun _ => rfl) ?_ | refine sc (fun _ => And.intro (by omega) trivial) ?_))
  intro p
  (repeat (first | refine st ?_ | refine And.intro rfl ?_ | refine sc (by omega) ?_ | refine sc (by simp only [List.length_map, List.length_append, List.length_cons, List.length_nil, List.length_set, List.length_replicate, List.length_singleton] at *; omega) ?_ | refine sc (And.intro (by omega) trivial) ?_ | refine sc (And.intro rfl (Nat.le_of_ble_eq_true rfl)) ?_ | refine sc (And.intro (by simp only [List.length_map, List.length_append, List.length_cons, List.length_nil, List.length_set, List.length_replicate, List.length_singleton] at *; omega) trivial) ?_ | refine sc (by decide) ?_ | refine sc (fun _ => trivial) ?_ | refine And.intro (fun _ => rfl) ?_ | refine sc (fun _ => And.intro (by omega) trivial) ?_))
  refine ent_loop (γ := Nat) (fun i => [.int .i64 i]) (fun i => sl cA 64 s1 (d.take i ++ List.replicate (d.length - i) zA) :: vr p 61 S_sector_Disk.c ⟨s1, Sl.nil⟩ :: F) (fun i => i ≤ d.length) (fun i => d.length - i) 0 rfl (by omega) ⟨fun _ hs => ?_⟩ ?_
  · rw [List.take_zero, List.nil_append]
    exact sats_swap hs
  intro i hi K1 j hK
  simp only [List.headD_cons] at *
  have hlen : (d.take i ++ List.replicate (d.length - i) zA).length = d.length := by rw [List.length_append, List.length_take, List.length_replicate]; omega
  refine cs (fun h3 => ?_) (fun h3 => ?_)
  · simp only [List.length_replicate] at h3
    have hid : i < d.length := by omega
    (repeat (first | refine st ?_ | refine And.intro rfl ?_ | refine sc (by omega) ?_ | refine sc (by simp only [List.length_map, List.length_append, List.length_cons, List.length_nil, List.length_set, List.length_replicate, List.length_singleton] at *; omega) ?_ | refine sc (And.intro (by omega) trivial) ?_ | refine sc (And.intro rfl (Nat.le_of_ble_eq_true rfl)) ?_ | refine sc (And.intro (by simp only [List.length_map, List.length_append, List.length_cons, List.length_nil, List.length_set, List.length_replicate, List.length_singleton] at *; omega) trivial) ?_ | refine sc (by decide) ?_ | refine sc (fun _ => trivial) ?_ | refine And.intro (fun _ => rfl) ?_ | refine sc (fun _ => And.intro (by omega) trivial) ?_))
    intro s2 hc
    have e1 : ((i : Int) * 64).toNat = i * 64 := by omega
    have e2 : (((i : Int) + 1) * 64).toNat = i * 64 + 64 := by omega
    rw [e1, e2] at hc
    refine ent_rs (s := s) (c := cU8) (xs := fl d) fun _ hs => ?_
    haveI vw : VwOf s2 cU8 s (i * 64) (i * 64 + 64) := ⟨hc, by omega⟩
    have e3 : ((fl d).drop (i * 64)).take (i * 64 + 64 - i * 64) = (d.getD i default).l := by
      rw [Nat.add_sub_cancel_left, fl_seg (by omega)]
    have e4 : arrOf 64 (((fl d).drop (i * 64)).take (i * 64 + 64 - i * 64)) = d.getD i default := by
      rw [e3]
      exact Arr.ext (arrOf_l (d.getD i default).len)
    refine sc ⟨by omega, by rw [e3, Arr.len]; omega⟩ ?_
    refine sc ⟨by omega, by rw [e3, Arr.len]; omega⟩ ?_
    rw [e4]
    refine sc ⟨by omega, by rw [hlen]; omega⟩ ?_
    refine sc ⟨by rw [hlen]; omega, trivial⟩ ?_
    have e5 : (d.take i ++ List.replicate (d.length - i) zA).set i (d.getD i default) = d.take (i + 1) ++ List.replicate (d.length - (i + 1)) zA := by
      have h4 : (d.take i).length = i := by rw [List.length_take]; omega
      rw [List.set_append, h4, if_neg (by omega), Nat.sub_self, show d.length - i = (d.length - (i + 1)) + 1 from by omega, List.replicate_succ, List.set_cons_zero, take_one hid, List.append_assoc]
      rfl
    rw [e5]
    (repeat (first | refine st ?_ | refine And.intro rfl ?_ | refine sc (by omega) ?_ | refine sc (by simp only [List.length_map, List.length_append, List.length_cons, List.length_nil, List.length_set, List.length_replicate, List.length_singleton] at *; omega) ?_ | refine sc (And.intro (by omega) trivial) ?_ | refine sc (And.intro rfl (Nat.le_of_ble_eq_true rfl)) ?_ | refine sc (And.intro (by simp only [List.length_map, List.length_append, List.length_cons, List.length_nil, List.length_set, List.length_replicate, List.length_singleton] at *; omega) trivial) ?_ | refine sc (by decide) ?_ | refine sc (fun _ => trivial) ?_ | refine And.intro (fun _ => rfl) ?_ | refine sc (fun _ => And.intro (by omega) trivial) ?_))
    exact hK (i + 1) (by omega) (by omega)
  · simp only [List.length_replicate] at h3
    have : i = d.length := by omega
    subst this
    (repeat (first | refine st ?_ | refine And.intro rfl ?_ | refine sc (by omega) ?_ | refine sc (by simp only [List.length_map, List.length_append, List.length_cons, List.length_nil, List.length_set, List.length_replicate, List.length_singleton] at *; omega) ?_ | refine sc (And.intro (by omega) trivial) ?_ | refine sc (And.intro rfl (Nat.le_of_ble_eq_true rfl)) ?_ | refine sc (And.intro (by simp only [List.length_map, List.length_append, List.length_cons, List.length_nil, List.length_set, List.length_replicate, List.length_singleton] at *; omega) trivial) ?_ | refine sc (by decide) ?_ | refine sc (fun _ => trivial) ?_ | refine And.intro (fun _ => rfl) ?_ | refine sc (fun _ => And.intro (by omega) trivial) ?_))
    rw [List.take_length, Nat.sub_self, List.replicate_zero, List.append_nil]
    refine ent_nil S_sector_waiting.c 67 ?_
    exact inc (M := vr p 61 S_sector_Disk.c ⟨s1, Sl.nil⟩ :: sl cA 64 s1 d :: sl S_sector_waiting.c 67 Sl.nil [] :: F) (disk_shut (m := ⟨d, []⟩) (h p))
theorem refLoad_ok {s : Sl} {d : List A64} [rs : Rs F s cU8 (fl d)] (h1 : 1 ≤ d.length) (h2 : d.length ≤ 4096) (h : ∀ p, Ent (refAt p ⟨d, []⟩ :: F) (K (.tuple #[.pointer (pt p), .int .i64 0]))) : Ent F (callC Try.prog 31 [sv s] K) := by
  refine ent_mono ?_ fun w => nf31_ok
  unfold nf31
  have hfl := fl_len (d := d)
  refine st ?_
  refine cf (by omega) ?_
  (repeat (first | refine st ?_ | refine And.intro rfl ?_ | refine sc (by omega) ?_ | refine sc (by simp only [List.length_map, List.length_append, List.length_cons, List.length_nil, List.length_set, List.length_replicate, List.length_singleton] at *; omega) ?_ | refine sc (And.intro (by omega) trivial) ?_ | refine sc (And.intro rfl (Nat.le_of_ble_eq_true rfl)) ?_ | refine sc (And.intro (by simp only [List.length_map, List.length_append, List.length_cons, List.length_nil, List.length_set, List.length_replicate, List.length_singleton] at *; omega) trivial) ?_ | refine sc (by decide) ?_ | refine sc (fun _ => trivial) ?_ | refine And.intro (fun _ => rfl) ?_ | refine sc (fun _ => And.intro (by omega) trivial) ?_))
  rw [hfl, tmod64]
  refine ct rfl ?_
  (repeat (first | refine st ?_ | refine And.intro rfl ?_ | refine sc (by omega) ?_ | refine sc (by simp only [List.length_map, List.length_append, List.length_cons, List.length_nil, List.length_set, List.length_replicate, List.length_singleton] at *; omega) ?_ | refine sc (And.intro (by omega) trivial) ?_ | refine sc (And.intro rfl (Nat.le_of_ble_eq_true rfl)) ?_ | refine sc (And.intro (by simp only [List.length_map, List.length_append, List.length_cons, List.length_nil, List.length_set, List.length_replicate, List.length_singleton] at *; omega) trivial) ?_ | refine sc (by decide) ?_ | refine sc (fun _ => trivial) ?_ | refine And.intro (fun _ => rfl) ?_ | refine sc (fun _ => And.intro (by omega) trivial) ?_))
  refine cf (by omega) ?_
  (repeat (first | refine st ?_ | refine And.intro rfl ?_ | refine sc (by omega) ?_ | refine sc (by simp only [List.length_map, List.length_append, List.length_cons, List.length_nil, List.length_set, List.length_replicate, List.length_singleton] at *; omega) ?_ | refine sc (And.intro (by omega) trivial) ?_ | refine sc (And.intro rfl (Nat.le_of_ble_eq_true rfl)) ?_ | refine sc (And.intro (by simp only [List.length_map, List.length_append, List.length_cons, List.length_nil, List.length_set, List.length_replicate, List.length_singleton] at *; omega) trivial) ?_ | refine sc (by decide) ?_ | refine sc (fun _ => trivial) ?_ | refine And.intro (fun _ => rfl) ?_ | refine sc (fun _ => And.intro (by omega) trivial) ?_))
  intro s1
  (repeat (first | refine st ?_ | refine And.intro rfl ?_ | refine sc (by omega) ?_ | refine sc (by simp only [List.length_map, List.length_append, List.length_cons, List.length_nil, List.length_set, List.length_replicate, List.length_singleton] at *; omega) ?_ | refine sc (And.intro (by omega) trivial) ?_ | refine sc (And.intro rfl (Nat.le_of_ble_eq_true rfl)) ?_ | refine sc (And.intro (by simp only [List.length_map, List.length_append, List.length_cons, List.length_nil, List.length_set, List.length_replicate, List.length_singleton] at *; omega) trivial) ?_ | refine sc (by decide) ?_ | refine sc (fun _ => trivial) ?_ | refine And.intro (fun _ => rfl) ?_ | refine sc (fun _ => And.intro (by omega) trivial) ?_))
  intro s2
  (repeat (first | refine st ?_ | refine And.intro rfl ?_ | refine sc (by omega) ?_ | refine sc (by simp only [List.length_map, List.length_append, List.length_cons, List.length_nil, List.length_set, List.length_replicate, List.length_singleton] at *; omega) ?_ | refine sc (And.intro (by omega) trivial) ?_ | refine sc (And.intro rfl (Nat.le_of_ble_eq_true rfl)) ?_ | refine sc (And.intro (by simp only [List.length_map, List.length_append, List.length_cons, List.length_nil, List.length_set, List.length_replicate, List.length_singleton] at *; omega) trivial) ?_ | refine sc (by decide) ?_ | refine sc (fun _ => trivial) ?_ | refine And.intro (fun _ => rfl) ?_ | refine sc (fun _ => And.intro (by omega) trivial) ?_))
  intro p
  rw [List.nil_append]
  refine ent_nil S_wicketref04_Write.c 69 (bg_nil rp ?_)
  exact inc (M := vr p 47 S_wicketref04_Disk.c ⟨s2, Sl.nil⟩ :: sl cU8 5 s2 (fl d) :: sl S_wicketref04_Write.c 69 Sl.nil [] :: bg rp [] :: F) (ref_shut (m := ⟨d, []⟩) (zs := []) rfl (h p))
theorem waiting_ok (hm : DOk m) (h : ∀ s, Ent (toldAt s (m.ws.map wOf) :: diskAt p m :: F) (K (sv s))) : Ent (diskAt p m :: F) (callC Try.prog 12 [.pointer (pt p)] K) := by
  refine ent_mono ?_ fun w => nf12_ok
  unfold nf12
  have h1 := hm.most
  refine disk_open fun s w => ?_
  (repeat (first | refine st ?_ | refine And.intro rfl ?_ | refine sc (by omega) ?_ | refine sc (by simp only [List.length_map, List.length_append, List.length_cons, List.length_nil, List.length_set, List.length_replicate, List.length_singleton] at *; omega) ?_ | refine sc (And.intro (by omega) trivial) ?_ | refine sc (And.intro rfl (Nat.le_of_ble_eq_true rfl)) ?_ | refine sc (And.intro (by simp only [List.length_map, List.length_append, List.length_cons, List.length_nil, List.length_set, List.length_replicate, List.length_singleton] at *; omega) trivial) ?_ | refine sc (by decide) ?_ | refine sc (fun _ => trivial) ?_ | refine And.intro (fun _ => rfl) ?_ | refine sc (fun _ => And.intro (by omega) trivial) ?_))
  refine ent_nil S_sector_Write.c 81 (bg_nil tp ?_)
  refine ent_loop (γ := Sl × List TW × Nat) (fun t => [sv t.1, .int .i64 t.2.2]) (fun t => bg tp t.2.1 :: sl S_sector_Write.c 81 t.1 (t.2.1.map (·.1)) :: vr p 61 S_sector_Disk.c ⟨s, w⟩ :: sl cA 64 s m.dur :: sl S_sector_waiting.c 67 w m.ws :: F)
    (fun t => t.2.2 ≤ m.ws.length ∧ t.2.1.map tOf = (m.ws.take t.2.2).map wOf) (fun t => m.ws.length - t.2.2) (Sl.nil, [], 0) rfl ⟨by simp, rfl⟩ ⟨fun _ hs => hs⟩ ?_
  intro ⟨s3, zs2, i⟩ ⟨hi, hz2⟩ K1 j hK
  simp only [List.headD_cons, List.tail_cons] at *
  have hz2l : zs2.length = i := by
    have := congrArg List.length hz2
    simp only [List.length_map, List.length_take] at this
    omega
  refine cs (fun h3 => ?_) (fun h3 => ?_)
  · have hiw : i < m.ws.length := by omega
    have hb := (m.ws.getD i default).bytes.len
    (repeat (first | refine st ?_ | refine And.intro rfl ?_ | refine sc (by omega) ?_ | refine sc (by simp only [List.length_map, List.length_append, List.length_cons, List.length_nil, List.length_set, List.length_replicate, List.length_singleton] at *; omega) ?_ | refine sc (And.intro (by omega) trivial) ?_ | refine sc (And.intro rfl (Nat.le_of_ble_eq_true rfl)) ?_ | refine sc (And.intro (by simp only [List.length_map, List.length_append, List.length_cons, List.length_nil, List.length_set, List.length_replicate, List.length_singleton] at *; omega) trivial) ?_ | refine sc (by decide) ?_ | refine sc (fun _ => trivial) ?_ | refine And.intro (fun _ => rfl) ?_ | refine sc (fun _ => And.intro (by omega) trivial) ?_))
    intro b
    (repeat (first | refine st ?_ | refine And.intro rfl ?_ | refine sc (by omega) ?_ | refine sc (by simp only [List.length_map, List.length_append, List.length_cons, List.length_nil, List.length_set, List.length_replicate, List.length_singleton] at *; omega) ?_ | refine sc (And.intro (by omega) trivial) ?_ | refine sc (And.intro rfl (Nat.le_of_ble_eq_true rfl)) ?_ | refine sc (And.intro (by simp only [List.length_map, List.length_append, List.length_cons, List.length_nil, List.length_set, List.length_replicate, List.length_singleton] at *; omega) trivial) ?_ | refine sc (by decide) ?_ | refine sc (fun _ => trivial) ?_ | refine And.intro (fun _ => rfl) ?_ | refine sc (fun _ => And.intro (by omega) trivial) ?_))
    intro s4 _
    refine clone_ok (l := ((m.ws.getD i default).bytes).l) (by omega) fun s5 => ?_
    (repeat (first | refine st ?_ | refine And.intro rfl ?_ | refine sc (by omega) ?_ | refine sc (by simp only [List.length_map, List.length_append, List.length_cons, List.length_nil, List.length_set, List.length_replicate, List.length_singleton] at *; omega) ?_ | refine sc (And.intro (by omega) trivial) ?_ | refine sc (And.intro rfl (Nat.le_of_ble_eq_true rfl)) ?_ | refine sc (And.intro (by simp only [List.length_map, List.length_append, List.length_cons, List.length_nil, List.length_set, List.length_replicate, List.length_singleton] at *; omega) trivial) ?_ | refine sc (by decide) ?_ | refine sc (fun _ => trivial) ?_ | refine And.intro (fun _ => rfl) ?_ | refine sc (fun _ => And.intro (by omega) trivial) ?_))
    intro s6
    (repeat (first | refine st ?_ | refine And.intro rfl ?_ | refine sc (by omega) ?_ | refine sc (by simp only [List.length_map, List.length_append, List.length_cons, List.length_nil, List.length_set, List.length_replicate, List.length_singleton] at *; omega) ?_ | refine sc (And.intro (by omega) trivial) ?_ | refine sc (And.intro rfl (Nat.le_of_ble_eq_true rfl)) ?_ | refine sc (And.intro (by simp only [List.length_map, List.length_append, List.length_cons, List.length_nil, List.length_set, List.length_replicate, List.length_singleton] at *; omega) trivial) ?_ | refine sc (by decide) ?_ | refine sc (fun _ => trivial) ?_ | refine And.intro (fun _ => rfl) ?_ | refine sc (fun _ => And.intro (by omega) trivial) ?_))
    intro s7
    (repeat (first | refine st ?_ | refine And.intro rfl ?_ | refine sc (by omega) ?_ | refine sc (by simp only [List.length_map, List.length_append, List.length_cons, List.length_nil, List.length_set, List.length_replicate, List.length_singleton] at *; omega) ?_ | refine sc (And.intro (by omega) trivial) ?_ | refine sc (And.intro rfl (Nat.le_of_ble_eq_true rfl)) ?_ | refine sc (And.intro (by simp only [List.length_map, List.length_append, List.length_cons, List.length_nil, List.length_set, List.length_replicate, List.length_singleton] at *; omega) trivial) ?_ | refine sc (by decide) ?_ | refine sc (fun _ => trivial) ?_ | refine And.intro (fun _ => rfl) ?_ | refine sc (fun _ => And.intro (by omega) trivial) ?_))
    refine ent_take (A := bg tp zs2) (ent_take (A := sl cU8 5 s5 (m.ws.getD i default).bytes.l) (ent_take (A := bg tp zs2) (bg_snoc (f := tp) (x := (⟨(m.ws.getD i default).sector, s5⟩, (m.ws.getD i default).bytes.l)) ?_)))
    have h9 := hK (s7, zs2 ++ [(⟨(m.ws.getD i default).sector, s5⟩, (m.ws.getD i default).bytes.l)], i + 1) ⟨by show i + 1 ≤ _; omega, by
      show (zs2 ++ [_]).map tOf = (m.ws.take (i + 1)).map wOf
      rw [take_one hiw, List.map_append, List.map_append, hz2]
      rfl⟩ (by show _ - (i + 1) < _; omega)
    simp only [List.map_append, List.map_cons, List.map_nil] at h9
    exact inc h9
  · have : i = m.ws.length := by omega
    subst this
    rw [List.take_length] at hz2
    (repeat (first | refine st ?_ | refine And.intro rfl ?_ | refine sc (by omega) ?_ | refine sc (by simp only [List.length_map, List.length_append, List.length_cons, List.length_nil, List.length_set, List.length_replicate, List.length_singleton] at *; omega) ?_ | refine sc (And.intro (by omega) trivial) ?_ | refine sc (And.intro rfl (Nat.le_of_ble_eq_true rfl)) ?_ | refine sc (And.intro (by simp only [List.length_map, List.length_append, List.length_cons, List.length_nil, List.length_set, List.length_replicate, List.length_singleton] at *; omega) trivial) ?_ | refine sc (by decide) ?_ | refine sc (fun _ => trivial) ?_ | refine And.intro (fun _ => rfl) ?_ | refine sc (fun _ => And.intro (by omega) trivial) ?_))
    refine inc (M := sl S_sector_Write.c 81 s3 (zs2.map (·.1)) :: bg tp zs2 :: vr p 61 S_sector_Disk.c ⟨s, w⟩ :: sl cA 64 s m.dur :: sl S_sector_waiting.c 67 w m.ws :: F) (told_shut hz2 ?_)
    exact inc (M := vr p 61 S_sector_Disk.c ⟨s, w⟩ :: sl cA 64 s m.dur :: sl S_sector_waiting.c 67 w m.ws :: toldAt s3 (m.ws.map wOf) :: F) (disk_shut (inc (h s3)))
/-! ## One by one the same -/
theorem same_ok {L : List HProp} {s w : Sl} {zs : List TW} {rs : List RW} [r1 : Rs L s S_sector_Write.c (zs.map (·.1))] [r2 : Rs L w S_wicketref04_Write.c (rs.map (·.1))] (he : zs.map tOf = rs.map rOf) (hl : zs.length ≤ 100000)
    (e1 : ∀ i, i < zs.length → Rs L (zs.getD i default).1.Data cU8 (zs.getD i default).2) (e2 : ∀ i, i < rs.length → Rs L (rs.getD i default).1.Data cU8 (rs.getD i default).2)
    (h : Ent L (K (.bool true))) : Ent L (callC Try.prog 11 [sv s, sv w] K) := by
  refine ent_mono ?_ fun w => nf11_ok
  unfold nf11
  have hlen : zs.length = rs.length := by have := congrArg List.length he; simpa using this
  (repeat (first | refine st ?_ | refine And.intro rfl ?_ | refine sc (by omega) ?_ | refine sc (by simp only [List.length_map, List.length_append, List.length_cons, List.length_nil, List.length_set, List.length_replicate, List.length_singleton] at *; omega) ?_ | refine sc (And.intro (by omega) trivial) ?_ | refine sc (And.intro rfl (Nat.le_of_ble_eq_true rfl)) ?_ | refine sc (And.intro (by simp only [List.length_map, List.length_append, List.length_cons, List.length_nil, List.length_set, List.length_replicate, List.length_singleton] at *; omega) trivial) ?_ | refine sc (by decide) ?_ | refine sc (fun _ => trivial) ?_ | refine And.intro (fun _ => rfl) ?_ | refine sc (fun _ => And.intro (by omega) trivial) ?_))
  refine ct (by rw [List.length_map, List.length_map, hlen]) ?_
  (repeat (first | refine st ?_ | refine And.intro rfl ?_ | refine sc (by omega) ?_ | refine sc (by simp only [List.length_map, List.length_append, List.length_cons, List.length_nil, List.length_set, List.length_replicate, List.length_singleton] at *; omega) ?_ | refine sc (And.intro (by omega) trivial) ?_ | refine sc (And.intro rfl (Nat.le_of_ble_eq_true rfl)) ?_ | refine sc (And.intro (by simp only [List.length_map, List.length_append, List.length_cons, List.length_nil, List.length_set, List.length_replicate, List.length_singleton] at *; omega) trivial) ?_ | refine sc (by decide) ?_ | refine sc (fun _ => trivial) ?_ | refine And.intro (fun _ => rfl) ?_ | refine sc (fun _ => And.intro (by omega) trivial) ?_))
  refine ent_loop0 (γ := Nat) (fun i => [.int .i64 i]) (fun i => i ≤ zs.length) (fun i => zs.length - i) 0 rfl (by omega) ?_
  intro i hi K1 j hK
  simp only [List.headD_cons] at *
  refine cs (fun h3 => ?_) (fun h3 => ?_)
  · simp only [List.length_map] at h3
    have hz1 : (zs.map (·.1)).getD i default = (zs.getD i default).1 := getD_map' (by omega)
    have hz2 : (rs.map (·.1)).getD i default = (rs.getD i default).1 := getD_map' (by omega)
    haveI := e1 i (by omega)
    haveI := e2 i (by omega)
    have hx : tOf (zs.getD i default) = rOf (rs.getD i default) := by
      have : (zs.map tOf).getD i default = (rs.map rOf).getD i default := by rw [he]
      rwa [getD_map' (by omega), getD_map' (by omega)] at this
    have hx1 : (zs.getD i default).1.Sector = (rs.getD i default).1.Sector := congrArg (·.1) hx
    have hx2 : (zs.getD i default).2 = (rs.getD i default).2 := congrArg (·.2) hx
    (repeat (first | refine st ?_ | refine And.intro rfl ?_ | refine sc (by omega) ?_ | refine sc (by simp only [List.length_map, List.length_append, List.length_cons, List.length_nil, List.length_set, List.length_replicate, List.length_singleton] at *; omega) ?_ | refine sc (And.intro (by omega) trivial) ?_ | refine sc (And.intro rfl (Nat.le_of_ble_eq_true rfl)) ?_ | refine sc (And.intro (by simp only [List.length_map, List.length_append, List.length_cons, List.length_nil, List.length_set, List.length_replicate, List.length_singleton] at *; omega) trivial) ?_ | refine sc (by decide) ?_ | refine sc (fun _ => trivial) ?_ | refine And.intro (fun _ => rfl) ?_ | refine sc (fun _ => And.intro (by omega) trivial) ?_))
    rw [hz1, hz2]
    refine ct hx1 ?_
    (repeat (first | refine st ?_ | refine And.intro rfl ?_ | refine sc (by omega) ?_ | refine sc (by simp only [List.length_map, List.length_append, List.length_cons, List.length_nil, List.length_set, List.length_replicate, List.length_singleton] at *; omega) ?_ | refine sc (And.intro (by omega) trivial) ?_ | refine sc (And.intro rfl (Nat.le_of_ble_eq_true rfl)) ?_ | refine sc (And.intro (by simp only [List.length_map, List.length_append, List.length_cons, List.length_nil, List.length_set, List.length_replicate, List.length_singleton] at *; omega) trivial) ?_ | refine sc (by decide) ?_ | refine sc (fun _ => trivial) ?_ | refine And.intro (fun _ => rfl) ?_ | refine sc (fun _ => And.intro (by omega) trivial) ?_))
    rw [hz1]
    (repeat (first | refine st ?_ | refine And.intro rfl ?_ | refine sc (by omega) ?_ | refine sc (by simp only [List.length_map, List.length_append, List.length_cons, List.length_nil, List.length_set, List.length_replicate, List.length_singleton] at *; omega) ?_ | refine sc (And.intro (by omega) trivial) ?_ | refine sc (And.intro rfl (Nat.le_of_ble_eq_true rfl)) ?_ | refine sc (And.intro (by simp only [List.length_map, List.length_append, List.length_cons, List.length_nil, List.length_set, List.length_replicate, List.length_singleton] at *; omega) trivial) ?_ | refine sc (by decide) ?_ | refine sc (fun _ => trivial) ?_ | refine And.intro (fun _ => rfl) ?_ | refine sc (fun _ => And.intro (by omega) trivial) ?_))
    rw [hz2]
    (repeat (first | refine st ?_ | refine And.intro rfl ?_ | refine sc (by omega) ?_ | refine sc (by simp only [List.length_map, List.length_append, List.length_cons, List.length_nil, List.length_set, List.length_replicate, List.length_singleton] at *; omega) ?_ | refine sc (And.intro (by omega) trivial) ?_ | refine sc (And.intro rfl (Nat.le_of_ble_eq_true rfl)) ?_ | refine sc (And.intro (by simp only [List.length_map, List.length_append, List.length_cons, List.length_nil, List.length_set, List.length_replicate, List.length_singleton] at *; omega) trivial) ?_ | refine sc (by decide) ?_ | refine sc (fun _ => trivial) ?_ | refine And.intro (fun _ => rfl) ?_ | refine sc (fun _ => And.intro (by omega) trivial) ?_))
    refine ct hx2 ?_
    (repeat (first | refine st ?_ | refine And.intro rfl ?_ | refine sc (by omega) ?_ | refine sc (by simp only [List.length_map, List.length_append, List.length_cons, List.length_nil, List.length_set, List.length_replicate, List.length_singleton] at *; omega) ?_ | refine sc (And.intro (by omega) trivial) ?_ | refine sc (And.intro rfl (Nat.le_of_ble_eq_true rfl)) ?_ | refine sc (And.intro (by simp only [List.length_map, List.length_append, List.length_cons, List.length_nil, List.length_set, List.length_replicate, List.length_singleton] at *; omega) trivial) ?_ | refine sc (by decide) ?_ | refine sc (fun _ => trivial) ?_ | refine And.intro (fun _ => rfl) ?_ | refine sc (fun _ => And.intro (by omega) trivial) ?_))
    exact hK (i + 1) (by omega) (by omega)
  · (repeat (first | refine st ?_ | refine And.intro rfl ?_ | refine sc (by omega) ?_ | refine sc (by simp only [List.length_map, List.length_append, List.length_cons, List.length_nil, List.length_set, List.length_replicate, List.length_singleton] at *; omega) ?_ | refine sc (And.intro (by omega) trivial) ?_ | refine sc (And.intro rfl (Nat.le_of_ble_eq_true rfl)) ?_ | refine sc (And.intro (by simp only [List.length_map, List.length_append, List.length_cons, List.length_nil, List.length_set, List.length_replicate, List.length_singleton] at *; omega) trivial) ?_ | refine sc (by decide) ?_ | refine sc (fun _ => trivial) ?_ | refine And.intro (fun _ => rfl) ?_ | refine sc (fun _ => And.intro (by omega) trivial) ?_))
    exact h
theorem told_same {s w : Sl} {q : Nat} {l : List IB} {sr : Sl} {rs : List RW} {G : List HProp} (hl : l.length ≤ 100000) (he : rs.map rOf = l)
    (h : Ent (toldAt s l :: vr q 47 S_wicketref04_Disk.c ⟨sr, w⟩ :: sl S_wicketref04_Write.c 69 w (rs.map (·.1)) :: bg rp rs :: G) (K (.bool true))) :
    Ent (toldAt s l :: vr q 47 S_wicketref04_Disk.c ⟨sr, w⟩ :: sl S_wicketref04_Write.c 69 w (rs.map (·.1)) :: bg rp rs :: G) (callC Try.prog 11 [sv s, sv w] K) := by
  refine told_open fun zs hz => ?_
  have hzl : zs.length = l.length := by rw [← hz, List.length_map]
  refine same_ok (zs := zs) (rs := rs) (by rw [hz, he]) (by omega) (fun i hi => ?_) (fun i hi => ?_) (told_shut hz h)
  · haveI r1 : ∀ M, Rs (bg tp zs :: M) (zs.getD i default).1.Data cU8 (zs.getD i default).2 := fun M => rs_bg (f := tp) (l := zs) (i := i) hi (fun M => (inferInstance : Rs (sl cU8 5 (zs.getD i default).1.Data (zs.getD i default).2 :: M) _ _ _)) M
    infer_instance
  · haveI r1 : ∀ M, Rs (bg rp rs :: M) (rs.getD i default).1.Data cU8 (rs.getD i default).2 := fun M => rs_bg (f := rp) (l := rs) (i := i) hi (fun M => (inferInstance : Rs (sl cU8 5 (rs.getD i default).1.Data (rs.getD i default).2 :: M) _ _ _)) M
    infer_instance
/-! ## Apart -/
def mkB (i : Nat) : UInt8 := bt ((i : Int) + 1)
theorem mark_ok {a : Sl} {i : Nat} {zs : List TW} {K : List Value → W} (hi : i < zs.length) (hi2 : i ≤ 100000) (hl : (zs.getD i default).2.length ≤ 100000)
    (h : Ent (sl S_sector_Write.c 81 a ((zs.set i (⟨-(i : Int), (zs.getD i default).1.Data⟩, List.replicate (zs.getD i default).2.length (mkB i))).map (·.1)) :: bg tp (zs.set i (⟨-(i : Int), (zs.getD i default).1.Data⟩, List.replicate (zs.getD i default).2.length (mkB i))) :: F) (K [.int .i64 (i + 1 : Nat)])) :
    Ent (sl S_sector_Write.c 81 a (zs.map (·.1)) :: bg tp zs :: F) (nf28_1 K (sv a) (.int .i64 (zs.getD i default).2.length) (.int .i64 i)) := by
  unfold nf28_1
  have hg1 : (zs.map (·.1)).getD i default = (zs.getD i default).1 := getD_map' hi
  refine ent_swap (bg_at hi ?_)
  show Ent (sl cU8 5 (zs.getD i default).1.Data (zs.getD i default).2 :: _) _
  generalize hgl : (zs.getD i default).2 = l at *
  refine ent_loop1 (γ := Nat × List UInt8) (fun t => [.int .i64 t.1]) (fun t => sl cU8 5 (zs.getD i default).1.Data t.2) (fun t => t.1 ≤ l.length ∧ t.2.length = l.length ∧ t.2.take t.1 = List.replicate t.1 (mkB i)) (fun t => l.length - t.1) (0, l) rfl ⟨by simp, rfl, by simp⟩ ?_
  intro ⟨k, t⟩ ⟨hk, ht, hr⟩ K1 j hK
  simp only [List.headD_cons] at *
  refine cs (fun h1 => ?_) (fun h1 => ?_)
  · (repeat (first | refine st ?_ | refine And.intro rfl ?_ | refine sc (by omega) ?_ | refine sc (by simp only [List.length_map, List.length_append, List.length_cons, List.length_nil, List.length_set, List.length_replicate, List.length_singleton] at *; omega) ?_ | refine sc (And.intro (by omega) trivial) ?_ | refine sc (And.intro rfl (Nat.le_of_ble_eq_true rfl)) ?_ | refine sc (And.intro (by simp only [List.length_map, List.length_append, List.length_cons, List.length_nil, List.length_set, List.length_replicate, List.length_singleton] at *; omega) trivial) ?_ | refine sc (by decide) ?_ | refine sc (fun _ => trivial) ?_ | refine And.intro (fun _ => rfl) ?_ | refine sc (fun _ => And.intro (by omega) trivial) ?_))
    rw [hg1]
    (repeat (first | refine st ?_ | refine And.intro rfl ?_ | refine sc (by omega) ?_ | refine sc (by simp only [List.length_map, List.length_append, List.length_cons, List.length_nil, List.length_set, List.length_replicate, List.length_singleton] at *; omega) ?_ | refine sc (And.intro (by omega) trivial) ?_ | refine sc (And.intro rfl (Nat.le_of_ble_eq_true rfl)) ?_ | refine sc (And.intro (by simp only [List.length_map, List.length_append, List.length_cons, List.length_nil, List.length_set, List.length_replicate, List.length_singleton] at *; omega) trivial) ?_ | refine sc (by decide) ?_ | refine sc (fun _ => trivial) ?_ | refine And.intro (fun _ => rfl) ?_ | refine sc (fun _ => And.intro (by omega) trivial) ?_))
    exact hK (k + 1, t.set k (mkB i)) ⟨by show k + 1 ≤ _; omega, by rw [List.length_set]; exact ht, take_set_rep hr (by omega)⟩ (by show _ - (k + 1) < _; omega)
  · have hkl : k = l.length := by omega
    subst hkl
    rw [← ht, List.take_length, ht] at hr
    subst hr
    (repeat (first | refine st ?_ | refine And.intro rfl ?_ | refine sc (by omega) ?_ | refine sc (by simp only [List.length_map, List.length_append, List.length_cons, List.length_nil, List.length_set, List.length_replicate, List.length_singleton] at *; omega) ?_ | refine sc (And.intro (by omega) trivial) ?_ | refine sc (And.intro rfl (Nat.le_of_ble_eq_true rfl)) ?_ | refine sc (And.intro (by simp only [List.length_map, List.length_append, List.length_cons, List.length_nil, List.length_set, List.length_replicate, List.length_singleton] at *; omega) trivial) ?_ | refine sc (by decide) ?_ | refine sc (fun _ => trivial) ?_ | refine And.intro (fun _ => rfl) ?_ | refine sc (fun _ => And.intro (by omega) trivial) ?_))
    rw [List.map_set] at h
    rw [hg1]
    refine ent_take (A := sl cU8 5 (zs.getD i default).1.Data (List.replicate l.length (mkB i))) (bg_put (f := tp) (i := i) (x := (⟨-(i : Int), (zs.getD i default).1.Data⟩, List.replicate l.length (mkB i))) hi ?_)
    exact inc h
/-- A told write, grown. -/
structure GT where
  t : S_sector_Write
  n : Nat
  i : Nat
  cur : Sl
instance : Inhabited GT := ⟨⟨default, 0, 0, Sl.nil⟩⟩
def gp (g : GT) : HProp := grw cU8 5 g.t.Data g.cur (List.replicate g.n (mkB g.i)) (List.replicate 70 (mkB g.i))
theorem grow_ok {i : Nat} {o lg : Sl} {n : Nat} {L0 : List Sl} {K : List Value → W} (hn : n ≤ 100000) (hi : i ≤ 100000) (hL : L0.length ≤ 2000000)
    (h : ∀ cur lg', Ent (grw cU8 5 o cur (List.replicate n (mkB i)) (List.replicate 70 (mkB i)) :: sl cSl 40 lg' (L0 ++ [cur]) :: F) (K [sv lg', .int .i64 (i + 1 : Nat)])) :
    Ent (sl cU8 5 o (List.replicate n (mkB i)) :: sl cSl 40 lg L0 :: F) (nf28_2 K (sv o) (sv lg) (.int .i64 i)) := by
  unfold nf28_2
  refine grw_mk ?_
  refine ent_loop1 (γ := Sl × Nat) (fun t => [sv t.1, .int .i64 t.2]) (fun t => grw cU8 5 o t.1 (List.replicate n (mkB i)) (List.replicate t.2 (mkB i))) (fun t => t.2 ≤ 70) (fun t => 70 - t.2) (o, 0) rfl (by simp) ?_
  intro ⟨s, k⟩ hk K1 j hK
  simp only [List.headD_cons, List.tail_cons] at *
  refine cs (fun h1 => ?_) (fun h1 => ?_)
  · (repeat (first | refine st ?_ | refine And.intro rfl ?_ | refine sc (by omega) ?_ | refine sc (by simp only [List.length_map, List.length_append, List.length_cons, List.length_nil, List.length_set, List.length_replicate, List.length_singleton] at *; omega) ?_ | refine sc (And.intro (by omega) trivial) ?_ | refine sc (And.intro rfl (Nat.le_of_ble_eq_true rfl)) ?_ | refine sc (And.intro (by simp only [List.length_map, List.length_append, List.length_cons, List.length_nil, List.length_set, List.length_replicate, List.length_singleton] at *; omega) trivial) ?_ | refine sc (by decide) ?_ | refine sc (fun _ => trivial) ?_ | refine And.intro (fun _ => rfl) ?_ | refine sc (fun _ => And.intro (by omega) trivial) ?_))
    intro s2
    refine ent_take (A := grw cU8 5 o s (List.replicate n (mkB i)) (List.replicate k (mkB i))) (grw_append (zs := [mkB i]) (by simp only [List.length_replicate, List.length_singleton]; omega) fun s3 => ?_)
    (repeat (first | refine st ?_ | refine And.intro rfl ?_ | refine sc (by omega) ?_ | refine sc (by simp only [List.length_map, List.length_append, List.length_cons, List.length_nil, List.length_set, List.length_replicate, List.length_singleton] at *; omega) ?_ | refine sc (And.intro (by omega) trivial) ?_ | refine sc (And.intro rfl (Nat.le_of_ble_eq_true rfl)) ?_ | refine sc (And.intro (by simp only [List.length_map, List.length_append, List.length_cons, List.length_nil, List.length_set, List.length_replicate, List.length_singleton] at *; omega) trivial) ?_ | refine sc (by decide) ?_ | refine sc (fun _ => trivial) ?_ | refine And.intro (fun _ => rfl) ?_ | refine sc (fun _ => And.intro (by omega) trivial) ?_))
    rw [← List.replicate_succ']
    exact inc (hK (s3, k + 1) (by show k + 1 ≤ _; omega) (by show _ - (k + 1) < _; omega))
  · have : k = 70 := by omega
    subst this
    (repeat (first | refine st ?_ | refine And.intro rfl ?_ | refine sc (by omega) ?_ | refine sc (by simp only [List.length_map, List.length_append, List.length_cons, List.length_nil, List.length_set, List.length_replicate, List.length_singleton] at *; omega) ?_ | refine sc (And.intro (by omega) trivial) ?_ | refine sc (And.intro rfl (Nat.le_of_ble_eq_true rfl)) ?_ | refine sc (And.intro (by simp only [List.length_map, List.length_append, List.length_cons, List.length_nil, List.length_set, List.length_replicate, List.length_singleton] at *; omega) trivial) ?_ | refine sc (by decide) ?_ | refine sc (fun _ => trivial) ?_ | refine And.intro (fun _ => rfl) ?_ | refine sc (fun _ => And.intro (by omega) trivial) ?_))
    intro s2
    (repeat (first | refine st ?_ | refine And.intro rfl ?_ | refine sc (by omega) ?_ | refine sc (by simp only [List.length_map, List.length_append, List.length_cons, List.length_nil, List.length_set, List.length_replicate, List.length_singleton] at *; omega) ?_ | refine sc (And.intro (by omega) trivial) ?_ | refine sc (And.intro rfl (Nat.le_of_ble_eq_true rfl)) ?_ | refine sc (And.intro (by simp only [List.length_map, List.length_append, List.length_cons, List.length_nil, List.length_set, List.length_replicate, List.length_singleton] at *; omega) trivial) ?_ | refine sc (by decide) ?_ | refine sc (fun _ => trivial) ?_ | refine And.intro (fun _ => rfl) ?_ | refine sc (fun _ => And.intro (by omega) trivial) ?_))
    intro s3
    (repeat (first | refine st ?_ | refine And.intro rfl ?_ | refine sc (by omega) ?_ | refine sc (by simp only [List.length_map, List.length_append, List.length_cons, List.length_nil, List.length_set, List.length_replicate, List.length_singleton] at *; omega) ?_ | refine sc (And.intro (by omega) trivial) ?_ | refine sc (And.intro rfl (Nat.le_of_ble_eq_true rfl)) ?_ | refine sc (And.intro (by simp only [List.length_map, List.length_append, List.length_cons, List.length_nil, List.length_set, List.length_replicate, List.length_singleton] at *; omega) trivial) ?_ | refine sc (by decide) ?_ | refine sc (fun _ => trivial) ?_ | refine And.intro (fun _ => rfl) ?_ | refine sc (fun _ => And.intro (by omega) trivial) ?_))
    exact inc (h s s3)
theorem look_ok {a lg : Sl} {i : Nat} {gs : List GT} {K : List Value → W} {R : Value → W} (hi : i < gs.length) (hi2 : i ≤ 100000) (hg : (gs.getD i default).i = i) (hs : (gs.getD i default).t.Sector = -(i : Int)) (hn : (gs.getD i default).n ≤ 100000)
    (h : Ent (bg gp gs :: sl S_sector_Write.c 81 a (gs.map (·.t)) :: sl cSl 40 lg (gs.map (·.cur)) :: F) (K [.int .i64 (i + 1 : Nat)])) :
    Ent (bg gp gs :: sl S_sector_Write.c 81 a (gs.map (·.t)) :: sl cSl 40 lg (gs.map (·.cur)) :: F) (nf28_3 K R (sv a) (.int .i64 ((gs.getD i default).n + 70 : Nat)) (sv lg) (.int .i64 i)) := by
  unfold nf28_3
  have m1 : (gs.map (·.t)).getD i default = (gs.getD i default).t := getD_map' hi
  have m2 : (gs.map (·.cur)).getD i default = (gs.getD i default).cur := getD_map' hi
  haveI r1 : ∀ M, Rs (bg gp gs :: M) (gs.getD i default).cur cU8 (List.replicate (gs.getD i default).n (mkB i) ++ List.replicate 70 (mkB i)) := fun M => by
    have := rs_bg (f := gp) (l := gs) (i := i) hi (fun M => (inferInstance : Rs (grw cU8 5 (gs.getD i default).t.Data (gs.getD i default).cur (List.replicate (gs.getD i default).n (mkB (gs.getD i default).i)) (List.replicate 70 (mkB (gs.getD i default).i)) :: M) (gs.getD i default).cur cU8 _)) M
    rw [hg] at this
    exact this
  haveI r2 : ∀ M, Rs (bg gp gs :: M) (gs.getD i default).t.Data cU8 (List.replicate (gs.getD i default).n (mkB i)) := fun M => by
    have := rs_bg (f := gp) (l := gs) (i := i) hi (fun M => (inferInstance : Rs (grw cU8 5 (gs.getD i default).t.Data (gs.getD i default).cur (List.replicate (gs.getD i default).n (mkB (gs.getD i default).i)) (List.replicate 70 (mkB (gs.getD i default).i)) :: M) (gs.getD i default).t.Data cU8 _)) M
    rw [hg] at this
    exact this
  have hrep : List.replicate (gs.getD i default).n (mkB i) ++ List.replicate 70 (mkB i) = List.replicate ((gs.getD i default).n + 70) (mkB i) := List.replicate_append_replicate
  rw [hrep] at r1
  refine ent_loop0 (γ := Nat) (fun k => [.int .i64 k]) (fun k => k ≤ (gs.getD i default).n + 70) (fun k => (gs.getD i default).n + 70 - k) 0 rfl (by omega) ?_
  intro k hk K1 j hK
  simp only [List.headD_cons] at *
  have hb : (((bt ((i : Int) + 1)).toNat : Nat) : Int) = ((mkB i).toNat : Nat) := rfl
  refine cs (fun h1 => ?_) (fun h1 => ?_)
  · (repeat (first | refine st ?_ | refine And.intro rfl ?_ | refine sc (by omega) ?_ | refine sc (by simp only [List.length_map, List.length_append, List.length_cons, List.length_nil, List.length_set, List.length_replicate, List.length_singleton] at *; omega) ?_ | refine sc (And.intro (by omega) trivial) ?_ | refine sc (And.intro rfl (Nat.le_of_ble_eq_true rfl)) ?_ | refine sc (And.intro (by simp only [List.length_map, List.length_append, List.length_cons, List.length_nil, List.length_set, List.length_replicate, List.length_singleton] at *; omega) trivial) ?_ | refine sc (by decide) ?_ | refine sc (fun _ => trivial) ?_ | refine And.intro (fun _ => rfl) ?_ | refine sc (fun _ => And.intro (by omega) trivial) ?_))
    rw [m2]
    (repeat (first | refine st ?_ | refine And.intro rfl ?_ | refine sc (by omega) ?_ | refine sc (by simp only [List.length_map, List.length_append, List.length_cons, List.length_nil, List.length_set, List.length_replicate, List.length_singleton] at *; omega) ?_ | refine sc (And.intro (by omega) trivial) ?_ | refine sc (And.intro rfl (Nat.le_of_ble_eq_true rfl)) ?_ | refine sc (And.intro (by simp only [List.length_map, List.length_append, List.length_cons, List.length_nil, List.length_set, List.length_replicate, List.length_singleton] at *; omega) trivial) ?_ | refine sc (by decide) ?_ | refine sc (fun _ => trivial) ?_ | refine And.intro (fun _ => rfl) ?_ | refine sc (fun _ => And.intro (by omega) trivial) ?_))
    rw [getD_rep (by omega)]
    (repeat (first | refine st ?_ | refine And.intro rfl ?_ | refine sc (by omega) ?_ | refine sc (by simp only [List.length_map, List.length_append, List.length_cons, List.length_nil, List.length_set, List.length_replicate, List.length_singleton] at *; omega) ?_ | refine sc (And.intro (by omega) trivial) ?_ | refine sc (And.intro rfl (Nat.le_of_ble_eq_true rfl)) ?_ | refine sc (And.intro (by simp only [List.length_map, List.length_append, List.length_cons, List.length_nil, List.length_set, List.length_replicate, List.length_singleton] at *; omega) trivial) ?_ | refine sc (by decide) ?_ | refine sc (fun _ => trivial) ?_ | refine And.intro (fun _ => rfl) ?_ | refine sc (fun _ => And.intro (by omega) trivial) ?_))
    refine ct rfl ?_
    (repeat (first | refine st ?_ | refine And.intro rfl ?_ | refine sc (by omega) ?_ | refine sc (by simp only [List.length_map, List.length_append, List.length_cons, List.length_nil, List.length_set, List.length_replicate, List.length_singleton] at *; omega) ?_ | refine sc (And.intro (by omega) trivial) ?_ | refine sc (And.intro rfl (Nat.le_of_ble_eq_true rfl)) ?_ | refine sc (And.intro (by simp only [List.length_map, List.length_append, List.length_cons, List.length_nil, List.length_set, List.length_replicate, List.length_singleton] at *; omega) trivial) ?_ | refine sc (by decide) ?_ | refine sc (fun _ => trivial) ?_ | refine And.intro (fun _ => rfl) ?_ | refine sc (fun _ => And.intro (by omega) trivial) ?_))
    rw [m1]
    (repeat (first | refine st ?_ | refine And.intro rfl ?_ | refine sc (by omega) ?_ | refine sc (by simp only [List.length_map, List.length_append, List.length_cons, List.length_nil, List.length_set, List.length_replicate, List.length_singleton] at *; omega) ?_ | refine sc (And.intro (by omega) trivial) ?_ | refine sc (And.intro rfl (Nat.le_of_ble_eq_true rfl)) ?_ | refine sc (And.intro (by simp only [List.length_map, List.length_append, List.length_cons, List.length_nil, List.length_set, List.length_replicate, List.length_singleton] at *; omega) trivial) ?_ | refine sc (by decide) ?_ | refine sc (fun _ => trivial) ?_ | refine And.intro (fun _ => rfl) ?_ | refine sc (fun _ => And.intro (by omega) trivial) ?_))
    refine cs (fun h2 => ?_) (fun h2 => ?_)
    · simp only [List.length_replicate] at h2
      (repeat (first | refine st ?_ | refine And.intro rfl ?_ | refine sc (by omega) ?_ | refine sc (by simp only [List.length_map, List.length_append, List.length_cons, List.length_nil, List.length_set, List.length_replicate, List.length_singleton] at *; omega) ?_ | refine sc (And.intro (by omega) trivial) ?_ | refine sc (And.intro rfl (Nat.le_of_ble_eq_true rfl)) ?_ | refine sc (And.intro (by simp only [List.length_map, List.length_append, List.length_cons, List.length_nil, List.length_set, List.length_replicate, List.length_singleton] at *; omega) trivial) ?_ | refine sc (by decide) ?_ | refine sc (fun _ => trivial) ?_ | refine And.intro (fun _ => rfl) ?_ | refine sc (fun _ => And.intro (by omega) trivial) ?_))
      rw [m1]
      (repeat (first | refine st ?_ | refine And.intro rfl ?_ | refine sc (by omega) ?_ | refine sc (by simp only [List.length_map, List.length_append, List.length_cons, List.length_nil, List.length_set, List.length_replicate, List.length_singleton] at *; omega) ?_ | refine sc (And.intro (by omega) trivial) ?_ | refine sc (And.intro rfl (Nat.le_of_ble_eq_true rfl)) ?_ | refine sc (And.intro (by simp only [List.length_map, List.length_append, List.length_cons, List.length_nil, List.length_set, List.length_replicate, List.length_singleton] at *; omega) trivial) ?_ | refine sc (by decide) ?_ | refine sc (fun _ => trivial) ?_ | refine And.intro (fun _ => rfl) ?_ | refine sc (fun _ => And.intro (by omega) trivial) ?_))
      rw [getD_rep (by omega)]
      (repeat (first | refine st ?_ | refine And.intro rfl ?_ | refine sc (by omega) ?_ | refine sc (by simp only [List.length_map, List.length_append, List.length_cons, List.length_nil, List.length_set, List.length_replicate, List.length_singleton] at *; omega) ?_ | refine sc (And.intro (by omega) trivial) ?_ | refine sc (And.intro rfl (Nat.le_of_ble_eq_true rfl)) ?_ | refine sc (And.intro (by simp only [List.length_map, List.length_append, List.length_cons, List.length_nil, List.length_set, List.length_replicate, List.length_singleton] at *; omega) trivial) ?_ | refine sc (by decide) ?_ | refine sc (fun _ => trivial) ?_ | refine And.intro (fun _ => rfl) ?_ | refine sc (fun _ => And.intro (by omega) trivial) ?_))
      refine ct rfl ?_
      (repeat (first | refine st ?_ | refine And.intro rfl ?_ | refine sc (by omega) ?_ | refine sc (by simp only [List.length_map, List.length_append, List.length_cons, List.length_nil, List.length_set, List.length_replicate, List.length_singleton] at *; omega) ?_ | refine sc (And.intro (by omega) trivial) ?_ | refine sc (And.intro rfl (Nat.le_of_ble_eq_true rfl)) ?_ | refine sc (And.intro (by simp only [List.length_map, List.length_append, List.length_cons, List.length_nil, List.length_set, List.length_replicate, List.length_singleton] at *; omega) trivial) ?_ | refine sc (by decide) ?_ | refine sc (fun _ => trivial) ?_ | refine And.intro (fun _ => rfl) ?_ | refine sc (fun _ => And.intro (by omega) trivial) ?_))
      exact hK (k + 1) (by omega) (by omega)
    · (repeat (first | refine st ?_ | refine And.intro rfl ?_ | refine sc (by omega) ?_ | refine sc (by simp only [List.length_map, List.length_append, List.length_cons, List.length_nil, List.length_set, List.length_replicate, List.length_singleton] at *; omega) ?_ | refine sc (And.intro (by omega) trivial) ?_ | refine sc (And.intro rfl (Nat.le_of_ble_eq_true rfl)) ?_ | refine sc (And.intro (by simp only [List.length_map, List.length_append, List.length_cons, List.length_nil, List.length_set, List.length_replicate, List.length_singleton] at *; omega) trivial) ?_ | refine sc (by decide) ?_ | refine sc (fun _ => trivial) ?_ | refine And.intro (fun _ => rfl) ?_ | refine sc (fun _ => And.intro (by omega) trivial) ?_))
      exact hK (k + 1) (by omega) (by omega)
  · (repeat (first | refine st ?_ | refine And.intro rfl ?_ | refine sc (by omega) ?_ | refine sc (by simp only [List.length_map, List.length_append, List.length_cons, List.length_nil, List.length_set, List.length_replicate, List.length_singleton] at *; omega) ?_ | refine sc (And.intro (by omega) trivial) ?_ | refine sc (And.intro rfl (Nat.le_of_ble_eq_true rfl)) ?_ | refine sc (And.intro (by simp only [List.length_map, List.length_append, List.length_cons, List.length_nil, List.length_set, List.length_replicate, List.length_singleton] at *; omega) trivial) ?_ | refine sc (by decide) ?_ | refine sc (fun _ => trivial) ?_ | refine And.intro (fun _ => rfl) ?_ | refine sc (fun _ => And.intro (by omega) trivial) ?_))
    rw [m1, hs]
    refine ct rfl ?_
    (repeat (first | refine st ?_ | refine And.intro rfl ?_ | refine sc (by omega) ?_ | refine sc (by simp only [List.length_map, List.length_append, List.length_cons, List.length_nil, List.length_set, List.length_replicate, List.length_singleton] at *; omega) ?_ | refine sc (And.intro (by omega) trivial) ?_ | refine sc (And.intro rfl (Nat.le_of_ble_eq_true rfl)) ?_ | refine sc (And.intro (by simp only [List.length_map, List.length_append, List.length_cons, List.length_nil, List.length_set, List.length_replicate, List.length_singleton] at *; omega) trivial) ?_ | refine sc (by decide) ?_ | refine sc (fun _ => trivial) ?_ | refine And.intro (fun _ => rfl) ?_ | refine sc (fun _ => And.intro (by omega) trivial) ?_))
    exact h
theorem apart_ok {a : Sl} {l : List IB} (hl : l.length ≤ 100000) (hb : ∀ x ∈ l, x.2.length ≤ 100000) (h : Ent F (K (.bool true))) : Ent (toldAt a l :: F) (callC Try.prog 28 [sv a] K) := by
  refine ent_mono ?_ fun w => nf28_ok
  unfold nf28
  refine told_open fun zs hz => ?_
  have hzl : zs.length = l.length := by rw [← hz, List.length_map]
  have hzb : ∀ i, i < zs.length → (zs.getD i default).2.length ≤ 100000 := fun i hi => by
    have : tOf (zs.getD i default) ∈ l := by rw [← hz]; exact List.mem_map_of_mem (getD_mem hi)
    exact hb _ this
  (repeat (first | refine st ?_ | refine And.intro rfl ?_ | refine sc (by omega) ?_ | refine sc (by simp only [List.length_map, List.length_append, List.length_cons, List.length_nil, List.length_set, List.length_replicate, List.length_singleton] at *; omega) ?_ | refine sc (And.intro (by omega) trivial) ?_ | refine sc (And.intro rfl (Nat.le_of_ble_eq_true rfl)) ?_ | refine sc (And.intro (by simp only [List.length_map, List.length_append, List.length_cons, List.length_nil, List.length_set, List.length_replicate, List.length_singleton] at *; omega) trivial) ?_ | refine sc (by decide) ?_ | refine sc (fun _ => trivial) ?_ | refine And.intro (fun _ => rfl) ?_ | refine sc (fun _ => And.intro (by omega) trivial) ?_))
  refine ent_loop (γ := Nat × List TW) (fun t => [.int .i64 t.1]) (fun t => sl S_sector_Write.c 81 a (t.2.map (·.1)) :: bg tp t.2 :: F)
    (fun t => t.1 ≤ zs.length ∧ t.2.length = zs.length ∧ (∀ i, i < zs.length → (t.2.getD i default).2.length ≤ 100000) ∧ ∀ i, i < t.1 → (t.2.getD i default).1.Sector = -(i : Int) ∧ (t.2.getD i default).2 = List.replicate (t.2.getD i default).2.length (mkB i))
    (fun t => zs.length - t.1) (0, zs) rfl ⟨by simp, rfl, hzb, fun i hi => by simp at hi⟩ ⟨fun _ hs => hs⟩ ?_
  intro ⟨i, ts⟩ ⟨hi, htl, htb, htm⟩ K1 j hK
  simp only [List.headD_cons] at *
  refine cs (fun h3 => ?_) (fun h3 => ?_)
  · simp only [List.length_map] at h3
    have hg1 : (ts.map (·.1)).getD i default = (ts.getD i default).1 := getD_map' (by omega)
    haveI r1 : ∀ M, Rs (bg tp ts :: M) (ts.getD i default).1.Data cU8 (ts.getD i default).2 := fun M => rs_bg (f := tp) (l := ts) (i := i) (by omega) (fun M => (inferInstance : Rs (sl cU8 5 (ts.getD i default).1.Data (ts.getD i default).2 :: M) _ _ _)) M
    (repeat (first | refine st ?_ | refine And.intro rfl ?_ | refine sc (by omega) ?_ | refine sc (by simp only [List.length_map, List.length_append, List.length_cons, List.length_nil, List.length_set, List.length_replicate, List.length_singleton] at *; omega) ?_ | refine sc (And.intro (by omega) trivial) ?_ | refine sc (And.intro rfl (Nat.le_of_ble_eq_true rfl)) ?_ | refine sc (And.intro (by simp only [List.length_map, List.length_append, List.length_cons, List.length_nil, List.length_set, List.length_replicate, List.length_singleton] at *; omega) trivial) ?_ | refine sc (by decide) ?_ | refine sc (fun _ => trivial) ?_ | refine And.intro (fun _ => rfl) ?_ | refine sc (fun _ => And.intro (by omega) trivial) ?_))
    rw [hg1]
    (repeat (first | refine st ?_ | refine And.intro rfl ?_ | refine sc (by omega) ?_ | refine sc (by simp only [List.length_map, List.length_append, List.length_cons, List.length_nil, List.length_set, List.length_replicate, List.length_singleton] at *; omega) ?_ | refine sc (And.intro (by omega) trivial) ?_ | refine sc (And.intro rfl (Nat.le_of_ble_eq_true rfl)) ?_ | refine sc (And.intro (by simp only [List.length_map, List.length_append, List.length_cons, List.length_nil, List.length_set, List.length_replicate, List.length_singleton] at *; omega) trivial) ?_ | refine sc (by decide) ?_ | refine sc (fun _ => trivial) ?_ | refine And.intro (fun _ => rfl) ?_ | refine sc (fun _ => And.intro (by omega) trivial) ?_))
    refine mark_ok (by omega) (by omega) (htb i (by omega)) ?_
    refine hK (i + 1, ts.set i (⟨-(i : Int), (ts.getD i default).1.Data⟩, List.replicate (ts.getD i default).2.length (mkB i))) ⟨by show i + 1 ≤ _; omega, by rw [List.length_set]; exact htl, fun k hk => ?_, fun k hk => ?_⟩ (by show _ - (i + 1) < _; omega)
    · by_cases hik : i = k
      · subst hik
        rw [Go.Dn.getD_set_eq (by omega)]
        simp only [List.length_replicate]
        exact htb i hk
      · rw [Go.Dn.getD_set_ne hik]
        exact htb k hk
    · simp only at hk
      by_cases hik : i = k
      · subst hik
        rw [Go.Dn.getD_set_eq (by omega)]
        simp only [List.length_replicate]
        exact ⟨trivial, trivial⟩
      · rw [Go.Dn.getD_set_ne hik]
        exact htm k (by omega)
  · simp only [List.length_map] at h3
    have : i = zs.length := by omega
    subst this
    clear hK
    (repeat (first | refine st ?_ | refine And.intro rfl ?_ | refine sc (by omega) ?_ | refine sc (by simp only [List.length_map, List.length_append, List.length_cons, List.length_nil, List.length_set, List.length_replicate, List.length_singleton] at *; omega) ?_ | refine sc (And.intro (by omega) trivial) ?_ | refine sc (And.intro rfl (Nat.le_of_ble_eq_true rfl)) ?_ | refine sc (And.intro (by simp only [List.length_map, List.length_append, List.length_cons, List.length_nil, List.length_set, List.length_replicate, List.length_singleton] at *; omega) trivial) ?_ | refine sc (by decide) ?_ | refine sc (fun _ => trivial) ?_ | refine And.intro (fun _ => rfl) ?_ | refine sc (fun _ => And.intro (by omega) trivial) ?_))
    unfold nf28_5
    refine ent_nil cSl 40 (bg_nil gp ?_)
    refine ent_loop (γ := Sl × List GT) (fun t => [sv t.1, .int .i64 t.2.length]) (fun t => bg gp t.2 :: sl cSl 40 t.1 (t.2.map (·.cur)) :: sl S_sector_Write.c 81 a (ts.map (·.1)) :: bg tp (ts.drop t.2.length) :: F)
      (fun t => t.2.length ≤ ts.length ∧ ∀ i, i < t.2.length → (t.2.getD i default).t = (ts.getD i default).1 ∧ (t.2.getD i default).i = i ∧ (t.2.getD i default).n = (ts.getD i default).2.length) (fun t => ts.length - t.2.length) (Sl.nil, []) rfl ⟨by simp, fun i hi => by simp at hi⟩ ⟨fun _ hs => hs⟩ ?_
    intro ⟨lg, gs⟩ ⟨hgl, hgs⟩ K1 j hK
    simp only [List.headD_cons, List.tail_cons] at *
    refine cs (fun h4 => ?_) (fun h4 => ?_)
    · simp only [List.length_map] at h4
      have hgi : gs.length < ts.length := by omega
      have hg1 : (ts.map (·.1)).getD gs.length default = (ts.getD gs.length default).1 := getD_map' hgi
      have hb2 := htb gs.length (by omega)
      have hm2 := (htm gs.length (by omega)).2
      (repeat (first | refine st ?_ | refine And.intro rfl ?_ | refine sc (by omega) ?_ | refine sc (by simp only [List.length_map, List.length_append, List.length_cons, List.length_nil, List.length_set, List.length_replicate, List.length_singleton] at *; omega) ?_ | refine sc (And.intro (by omega) trivial) ?_ | refine sc (And.intro rfl (Nat.le_of_ble_eq_true rfl)) ?_ | refine sc (And.intro (by simp only [List.length_map, List.length_append, List.length_cons, List.length_nil, List.length_set, List.length_replicate, List.length_singleton] at *; omega) trivial) ?_ | refine sc (by decide) ?_ | refine sc (fun _ => trivial) ?_ | refine And.intro (fun _ => rfl) ?_ | refine sc (fun _ => And.intro (by omega) trivial) ?_))
      rw [hg1, drop_getD hgi]
      refine ent_take (A := bg tp (ts.getD gs.length default :: ts.drop (gs.length + 1))) (bg_cons ?_)
      show Ent (sl cU8 5 (ts.getD gs.length default).1.Data (ts.getD gs.length default).2 :: _) _
      rw [hm2]
      refine inc (grow_ok (i := gs.length) (o := (ts.getD gs.length default).1.Data) (lg := lg) (n := (ts.getD gs.length default).2.length) (L0 := gs.map (·.cur)) (F := bg tp (ts.drop (gs.length + 1)) :: bg gp gs :: sl S_sector_Write.c 81 a (ts.map (·.1)) :: F) (by omega) (by omega) (by rw [List.length_map]; omega) fun cur lg' => ?_)
      refine ent_take (A := bg gp gs) (ent_take (A := grw cU8 5 (ts.getD gs.length default).1.Data cur (List.replicate (ts.getD gs.length default).2.length (mkB gs.length)) (List.replicate 70 (mkB gs.length))) (ent_take (A := bg gp gs) (bg_snoc (f := gp) (x := ⟨(ts.getD gs.length default).1, (ts.getD gs.length default).2.length, gs.length, cur⟩) ?_)))
      have h9 := hK (lg', gs ++ [⟨(ts.getD gs.length default).1, (ts.getD gs.length default).2.length, gs.length, cur⟩]) ⟨by rw [List.length_append, List.length_singleton]; omega, fun k hk => by
        rw [List.length_append, List.length_singleton] at hk
        by_cases hkg : k < gs.length
        · rw [getD_app_l hkg]; exact hgs k hkg
        · have : k = gs.length := by omega
          subst this
          rw [getD_app_r (Nat.le_refl _), Nat.sub_self]
          exact ⟨rfl, rfl, rfl⟩⟩ (by rw [List.length_append, List.length_singleton]; omega)
      simp only [List.map_append, List.map_cons, List.map_nil, List.length_append, List.length_singleton] at h9
      exact inc h9
    · simp only [List.length_map] at h4
      have hgt : gs.length = ts.length := by omega
      clear hK
      (repeat (first | refine st ?_ | refine And.intro rfl ?_ | refine sc (by omega) ?_ | refine sc (by simp only [List.length_map, List.length_append, List.length_cons, List.length_nil, List.length_set, List.length_replicate, List.length_singleton] at *; omega) ?_ | refine sc (And.intro (by omega) trivial) ?_ | refine sc (And.intro rfl (Nat.le_of_ble_eq_true rfl)) ?_ | refine sc (And.intro (by simp only [List.length_map, List.length_append, List.length_cons, List.length_nil, List.length_set, List.length_replicate, List.length_singleton] at *; omega) trivial) ?_ | refine sc (by decide) ?_ | refine sc (fun _ => trivial) ?_ | refine And.intro (fun _ => rfl) ?_ | refine sc (fun _ => And.intro (by omega) trivial) ?_))
      unfold nf28_4
      have ett : ts.map (·.1) = gs.map (·.t) := by
        refine list_eq_of (by rw [List.length_map, List.length_map, hgt]) fun k hk => ?_
        rw [List.length_map] at hk
        rw [getD_map' hk, getD_map' (by omega), (hgs k (by omega)).1]
      rw [ett]
      refine ent_loop (γ := Nat) (fun k => [.int .i64 k]) (fun _ => bg gp gs :: sl S_sector_Write.c 81 a (gs.map (·.t)) :: sl cSl 40 lg (gs.map (·.cur)) :: F) (fun k => k ≤ gs.length) (fun k => gs.length - k) 0 rfl (by omega) inferInstance ?_
      intro k hk K2 j2 hK
      simp only [List.headD_cons] at *
      refine cs (fun h5 => ?_) (fun h5 => ?_)
      · simp only [List.length_map] at h5
        have hkg : k < gs.length := by omega
        have m2 : (gs.map (·.cur)).getD k default = (gs.getD k default).cur := getD_map' hkg
        obtain ⟨q1, q2, q3⟩ := hgs k hkg
        haveI r1 : ∀ M, Rs (bg gp gs :: M) (gs.getD k default).cur cU8 (List.replicate (gs.getD k default).n (mkB (gs.getD k default).i) ++ List.replicate 70 (mkB (gs.getD k default).i)) := fun M =>
          rs_bg (f := gp) (l := gs) (i := k) hkg (fun M => (inferInstance : Rs (grw cU8 5 (gs.getD k default).t.Data (gs.getD k default).cur (List.replicate (gs.getD k default).n (mkB (gs.getD k default).i)) (List.replicate 70 (mkB (gs.getD k default).i)) :: M) (gs.getD k default).cur cU8 _)) M
        (repeat (first | refine st ?_ | refine And.intro rfl ?_ | refine sc (by omega) ?_ | refine sc (by simp only [List.length_map, List.length_append, List.length_cons, List.length_nil, List.length_set, List.length_replicate, List.length_singleton] at *; omega) ?_ | refine sc (And.intro (by omega) trivial) ?_ | refine sc (And.intro rfl (Nat.le_of_ble_eq_true rfl)) ?_ | refine sc (And.intro (by simp only [List.length_map, List.length_append, List.length_cons, List.length_nil, List.length_set, List.length_replicate, List.length_singleton] at *; omega) trivial) ?_ | refine sc (by decide) ?_ | refine sc (fun _ => trivial) ?_ | refine And.intro (fun _ => rfl) ?_ | refine sc (fun _ => And.intro (by omega) trivial) ?_))
        rw [m2]
        (repeat (first | refine st ?_ | refine And.intro rfl ?_ | refine sc (by omega) ?_ | refine sc (by simp only [List.length_map, List.length_append, List.length_cons, List.length_nil, List.length_set, List.length_replicate, List.length_singleton] at *; omega) ?_ | refine sc (And.intro (by omega) trivial) ?_ | refine sc (And.intro rfl (Nat.le_of_ble_eq_true rfl)) ?_ | refine sc (And.intro (by simp only [List.length_map, List.length_append, List.length_cons, List.length_nil, List.length_set, List.length_replicate, List.length_singleton] at *; omega) trivial) ?_ | refine sc (by decide) ?_ | refine sc (fun _ => trivial) ?_ | refine And.intro (fun _ => rfl) ?_ | refine sc (fun _ => And.intro (by omega) trivial) ?_))
        rw [List.length_append, List.length_replicate, List.length_replicate]
        refine look_ok hkg (by omega) q2 (by rw [q1]; exact (htm k (by omega)).1) (by rw [q3]; exact htb k (by omega)) ?_
        exact hK (k + 1) (by omega) (by omega)
      · (repeat (first | refine st ?_ | refine And.intro rfl ?_ | refine sc (by omega) ?_ | refine sc (by simp only [List.length_map, List.length_append, List.length_cons, List.length_nil, List.length_set, List.length_replicate, List.length_singleton] at *; omega) ?_ | refine sc (And.intro (by omega) trivial) ?_ | refine sc (And.intro rfl (Nat.le_of_ble_eq_true rfl)) ?_ | refine sc (And.intro (by simp only [List.length_map, List.length_append, List.length_cons, List.length_nil, List.length_set, List.length_replicate, List.length_singleton] at *; omega) trivial) ?_ | refine sc (by decide) ?_ | refine sc (fun _ => trivial) ?_ | refine And.intro (fun _ => rfl) ?_ | refine sc (fun _ => And.intro (by omega) trivial) ?_))
        exact inc h
end
end Go.Proofs.Ytkopggalogppcaa
