/- Disks on both sides. -/
import Derived.Test.YtkopggalogppcaaSs
namespace Go.Proofs.Ytkopggalogppcaa
set_option linter.unusedSimpArgs false
set_option linter.unusedVariables false
open Go.Dn
set_option linter.unusedSectionVars false
set_option synthInstance.maxSize 10000
set_option synthInstance.maxHeartbeats 400000
set_option maxHeartbeats 2000000
variable [sd : Side]
abbrev WT := S_sector_waiting
structure DM where
  dur : List A64
  ws : List WT
/-- A disk may be worked with. -/
structure DOk (m : DM) : Prop where
  len : m.dur.length ≤ 4096
  pos : 1 ≤ m.dur.length
  most : m.ws.length ≤ 100000
  in_ : ∀ w ∈ m.ws, 0 ≤ w.sector ∧ w.sector < m.dur.length
abbrev IB := Int × List UInt8
def wOf (w : WT) : IB := (w.sector, w.bytes.l)
def diskAt (p : Nat) (m : DM) : HProp := fun h => ∃ s w, stars [vr p 61 S_sector_Disk.c ⟨s, w⟩, sl cA 64 s m.dur, sl S_sector_waiting.c 67 w m.ws] h
abbrev RW := S_wicketref04_Write × List UInt8
def rOf (x : RW) : IB := (x.1.Sector, x.2)
def rp (x : RW) : HProp := sl cU8 5 x.1.Data x.2
instance : Inhabited RW := ⟨(default, [])⟩
def refX (p : Nat) (dur : List UInt8) (s w : Sl) (zs : List RW) : HProp := stars [vr p 47 S_wicketref04_Disk.c ⟨s, w⟩, sl cU8 5 s dur, sl S_wicketref04_Write.c 69 w (zs.map (·.1)), bg rp zs]
def refAt (p : Nat) (m : DM) : HProp := fun h => ∃ (s w : Sl) (zs : List RW), zs.map rOf = m.ws.map wOf ∧ refX p (fl m.dur) s w zs h
section
variable {p : Nat} {m : DM} {F : List HProp} {φ : W}
theorem disk_open (h : ∀ s w, Ent (vr p 61 S_sector_Disk.c ⟨s, w⟩ :: sl cA 64 s m.dur :: sl S_sector_waiting.c 67 w m.ws :: F) φ) : Ent (diskAt p m :: F) φ :=
  ent_ex fun s => ent_ex fun r => ent_open (M := [_, _, _]) (fun _ h => h) (h s r)
theorem disk_shut {s w : Sl} (h : Ent (diskAt p m :: F) φ) : Ent (vr p 61 S_sector_Disk.c ⟨s, w⟩ :: sl cA 64 s m.dur :: sl S_sector_waiting.c 67 w m.ws :: F) φ :=
  ent_shut (M := [_, _, _]) (fun _ h => ⟨s, w, h⟩) h
theorem ref_open (h : ∀ s w zs, zs.map rOf = m.ws.map wOf → Ent (vr p 47 S_wicketref04_Disk.c ⟨s, w⟩ :: sl cU8 5 s (fl m.dur) :: sl S_wicketref04_Write.c 69 w (zs.map (·.1)) :: bg rp zs :: F) φ) : Ent (refAt p m :: F) φ := fun w0 hw => by
  obtain ⟨⟨h1, h2, d, e1, ⟨s, w, zs, hz, ha⟩, hL⟩, hside⟩ := hw
  exact h s w zs hz w0 ⟨sats_stars.1 ⟨h1, h2, d, e1, ha, hL⟩, hside⟩
theorem ref_shut {s w : Sl} {zs : List RW} (hz : zs.map rOf = m.ws.map wOf) (h : Ent (refAt p m :: F) φ) : Ent (vr p 47 S_wicketref04_Disk.c ⟨s, w⟩ :: sl cU8 5 s (fl m.dur) :: sl S_wicketref04_Write.c 69 w (zs.map (·.1)) :: bg rp zs :: F) φ :=
  ent_shut (M := [_, _, _, _]) (fun _ h => ⟨s, w, zs, hz, h⟩) h
end
/-! ## What they answer -/
def nw (m : DM) (n : Int) : Nat → A64
  | 0 => m.dur.getD n.toNat default
  | i + 1 => if (m.ws.getD i default).sector = n then (m.ws.getD i default).bytes else nw m n i
theorem nw_skip {m : DM} {n : Int} {i : Nat} : ∀ {k : Nat}, i ≤ k → (∀ j, i ≤ j → j < k → (m.ws.getD j default).sector ≠ n) → nw m n k = nw m n i
  | 0, h, _ => by rw [show i = 0 from by omega]
  | k + 1, h, hj => by
    by_cases hk : i = k + 1
    · rw [hk]
    · show (if _ then _ else _) = _
      rw [if_neg (hj k (by omega) (by omega))]
      exact nw_skip (by omega) fun j h1 h2 => hj j h1 (by omega)
def newest (m : DM) (n : Int) : A64 := nw m n m.ws.length
def wrE (m : DM) (n : Int) (l : List UInt8) : Int := if 0 ≤ n ∧ n < m.dur.length then (if l.length = 64 then 0 else 2) else 40
def wrM (m : DM) (n : Int) (l : List UInt8) : DM := if 0 ≤ n ∧ n < m.dur.length then (if l.length = 64 then ⟨m.dur, m.ws ++ [⟨n, arrOf 64 l⟩]⟩ else m) else m
def rdE (m : DM) (n : Int) : Int := if 0 ≤ n ∧ n < m.dur.length then 0 else 40
def rdB (m : DM) (n : Int) : List UInt8 := if 0 ≤ n ∧ n < m.dur.length then (newest m n).l else []
def cr (m : DM) (q : Nat → Bool) : Nat → List A64
  | 0 => m.dur
  | i + 1 => if q i = true then (cr m q i).set (m.ws.getD i default).sector.toNat (m.ws.getD i default).bytes else cr m q i
theorem cr_len {m : DM} {q : Nat → Bool} : ∀ {i : Nat}, (cr m q i).length = m.dur.length
  | 0 => rfl
  | i + 1 => by
    unfold cr
    split
    · rw [List.length_set, cr_len]
    · exact cr_len
def crM (m : DM) (q : Nat → Bool) : DM := ⟨cr m q m.ws.length, []⟩
def qOf (ks : List Int) (i : Nat) : Bool := decide ((i : Int) ∈ ks)
theorem DOk.wr {m : DM} (h : DOk m) {n : Int} {l : List UInt8} (hm : m.ws.length ≤ 99999) : DOk (wrM m n l) := by
  unfold wrM
  split
  · rename_i hn
    split
    · refine ⟨h.len, h.pos, by simp only [List.length_append, List.length_singleton]; omega, fun w hw => ?_⟩
      rcases List.mem_append.1 hw with hw | hw
      · exact h.in_ w hw
      · rw [List.mem_singleton.1 hw]; exact hn
    · exact h
  · exact h
theorem DOk.cr {m : DM} (h : DOk m) {q : Nat → Bool} : DOk (crM m q) :=
  ⟨by show (Go.Proofs.Ytkopggalogppcaa.cr m q _).length ≤ _; rw [cr_len]; exact h.len, by show 1 ≤ (Go.Proofs.Ytkopggalogppcaa.cr m q _).length; rw [cr_len]; exact h.pos, by show 0 ≤ _; omega, fun w hw => absurd hw List.not_mem_nil⟩
/-! ## New, length, image -/
theorem tdiv64 {n : Nat} : ((n * 64 : Nat) : Int).tdiv 64 = n := by
  rw [Int.tdiv_eq_ediv_of_nonneg (by omega)]; omega
section
variable {p : Nat} {m : DM} {K : Value → W} {F : List HProp}
theorem new_ok {n : Int} (h1 : 1 ≤ n ∧ n ≤ 4096 → ∀ p, Ent (diskAt p ⟨List.replicate n.toNat zA, []⟩ :: F) (K (.tuple #[.pointer (pt p), .int .i64 0]))) (h2 : ¬ (1 ≤ n ∧ n ≤ 4096) → Ent F (K (.tuple #[.pointer none, .int .i64 2]))) :
    Ent F (callC Try.prog 5 [.int .i64 n] K) := by
  refine ent_mono ?_ fun w => nf5_ok
  unfold nf5
  refine cs (fun h3 => ?_) (fun h3 => ?_)
  · (repeat (first | refine st ?_ | refine And.intro rfl ?_ | refine sc (by omega) ?_ | refine sc (by simp only [List.length_map, List.length_append, List.length_cons, List.length_nil, List.length_set, List.length_replicate, List.length_singleton] at *; omega) ?_ | refine sc (And.intro (by omega) trivial) ?_ | refine sc (And.intro rfl (Nat.le_of_ble_eq_true rfl)) ?_ | refine sc (And.intro (by simp only [List.length_map, List.length_append, List.length_cons, List.length_nil, List.length_set, List.length_replicate, List.length_singleton] at *; omega) trivial) ?_ | refine sc (by decide) ?_ | refine sc (fun _ => trivial) ?_ | refine And.intro (fun _ => rfl) ?_ | refine sc (fun _ => And.intro (by omega) trivial) ?_))
    exact h2 (by omega)
  · (repeat (first | refine st ?_ | refine And.intro rfl ?_ | refine sc (by omega) ?_ | refine sc (by simp only [List.length_map, List.length_append, List.length_cons, List.length_nil, List.length_set, List.length_replicate, List.length_singleton] at *; omega) ?_ | refine sc (And.intro (by omega) trivial) ?_ | refine sc (And.intro rfl (Nat.le_of_ble_eq_true rfl)) ?_ | refine sc (And.intro (by simp only [List.length_map, List.length_append, List.length_cons, List.length_nil, List.length_set, List.length_replicate, List.length_singleton] at *; omega) trivial) ?_ | refine sc (by decide) ?_ | refine sc (fun _ => trivial) ?_ | refine And.intro (fun _ => rfl) ?_ | refine sc (fun _ => And.intro (by omega) trivial) ?_))
    refine cs (fun h4 => ?_) (fun h4 => ?_)
    · (repeat (first | refine st ?_ | refine And.intro rfl ?_ | refine sc (by omega) ?_ | refine sc (by simp only [List.length_map, List.length_append, List.length_cons, List.length_nil, List.length_set, List.length_replicate, List.length_singleton] at *; omega) ?_ | refine sc (And.intro (by omega) trivial) ?_ | refine sc (And.intro rfl (Nat.le_of_ble_eq_true rfl)) ?_ | refine sc (And.intro (by simp only [List.length_map, List.length_append, List.length_cons, List.length_nil, List.length_set, List.length_replicate, List.length_singleton] at *; omega) trivial) ?_ | refine sc (by decide) ?_ | refine sc (fun _ => trivial) ?_ | refine And.intro (fun _ => rfl) ?_ | refine sc (fun _ => And.intro (by omega) trivial) ?_))
      exact h2 (by omega)
    · (repeat (first | refine st ?_ | refine And.intro rfl ?_ | refine sc (by omega) ?_ | refine sc (by simp only [List.length_map, List.length_append, List.length_cons, List.length_nil, List.length_set, List.length_replicate, List.length_singleton] at *; omega) ?_ | refine sc (And.intro (by omega) trivial) ?_ | refine sc (And.intro rfl (Nat.le_of_ble_eq_true rfl)) ?_ | refine sc (And.intro (by simp only [List.length_map, List.length_append, List.length_cons, List.length_nil, List.length_set, List.length_replicate, List.length_singleton] at *; omega) trivial) ?_ | refine sc (by decide) ?_ | refine sc (fun _ => trivial) ?_ | refine And.intro (fun _ => rfl) ?_ | refine sc (fun _ => And.intro (by omega) trivial) ?_))
      intro s
      (repeat (first | refine st ?_ | refine And.intro rfl ?_ | refine sc (by omega) ?_ | refine sc (by simp only [List.length_map, List.length_append, List.length_cons, List.length_nil, List.length_set, List.length_replicate, List.length_singleton] at *; omega) ?_ | refine sc (And.intro (by omega) trivial) ?_ | refine sc (And.intro rfl (Nat.le_of_ble_eq_true rfl)) ?_ | refine sc (And.intro (by simp only [List.length_map, List.length_append, List.length_cons, List.length_nil, List.length_set, List.length_replicate, List.length_singleton] at *; omega) trivial) ?_ | refine sc (by decide) ?_ | refine sc (fun _ => trivial) ?_ | refine And.intro (fun _ => rfl) ?_ | refine sc (fun _ => And.intro (by omega) trivial) ?_))
      intro p
      exact ent_nil S_sector_waiting.c 67 (inc (M := vr p 61 S_sector_Disk.c ⟨s, Sl.nil⟩ :: sl cA 64 s (List.replicate n.toNat zA) :: sl S_sector_waiting.c 67 Sl.nil [] :: F) (disk_shut (m := ⟨List.replicate n.toNat zA, []⟩) (h1 (by omega) p)))
theorem refNew_ok {n : Int} (h1 : 1 ≤ n ∧ n ≤ 4096 → ∀ p, Ent (refAt p ⟨List.replicate n.toNat zA, []⟩ :: F) (K (.tuple #[.pointer (pt p), .int .i64 0]))) (h2 : ¬ (1 ≤ n ∧ n ≤ 4096) → Ent F (K (.tuple #[.pointer none, .int .i64 2]))) :
    Ent F (callC Try.prog 6 [.int .i64 n] K) := by
  refine ent_mono ?_ fun w => nf6_ok
  unfold nf6
  refine cs (fun h3 => ?_) (fun h3 => ?_)
  · (repeat (first | refine st ?_ | refine And.intro rfl ?_ | refine sc (by omega) ?_ | refine sc (by simp only [List.length_map, List.length_append, List.length_cons, List.length_nil, List.length_set, List.length_replicate, List.length_singleton] at *; omega) ?_ | refine sc (And.intro (by omega) trivial) ?_ | refine sc (And.intro rfl (Nat.le_of_ble_eq_true rfl)) ?_ | refine sc (And.intro (by simp only [List.length_map, List.length_append, List.length_cons, List.length_nil, List.length_set, List.length_replicate, List.length_singleton] at *; omega) trivial) ?_ | refine sc (by decide) ?_ | refine sc (fun _ => trivial) ?_ | refine And.intro (fun _ => rfl) ?_ | refine sc (fun _ => And.intro (by omega) trivial) ?_))
    exact h2 (by omega)
  · (repeat (first | refine st ?_ | refine And.intro rfl ?_ | refine sc (by omega) ?_ | refine sc (by simp only [List.length_map, List.length_append, List.length_cons, List.length_nil, List.length_set, List.length_replicate, List.length_singleton] at *; omega) ?_ | refine sc (And.intro (by omega) trivial) ?_ | refine sc (And.intro rfl (Nat.le_of_ble_eq_true rfl)) ?_ | refine sc (And.intro (by simp only [List.length_map, List.length_append, List.length_cons, List.length_nil, List.length_set, List.length_replicate, List.length_singleton] at *; omega) trivial) ?_ | refine sc (by decide) ?_ | refine sc (fun _ => trivial) ?_ | refine And.intro (fun _ => rfl) ?_ | refine sc (fun _ => And.intro (by omega) trivial) ?_))
    refine cs (fun h4 => ?_) (fun h4 => ?_)
    · (repeat (first | refine st ?_ | refine And.intro rfl ?_ | refine sc (by omega) ?_ | refine sc (by simp only [List.length_map, List.length_append, List.length_cons, List.length_nil, List.length_set, List.length_replicate, List.length_singleton] at *; omega) ?_ | refine sc (And.intro (by omega) trivial) ?_ | refine sc (And.intro rfl (Nat.le_of_ble_eq_true rfl)) ?_ | refine sc (And.intro (by simp only [List.length_map, List.length_append, List.length_cons, List.length_nil, List.length_set, List.length_replicate, List.length_singleton] at *; omega) trivial) ?_ | refine sc (by decide) ?_ | refine sc (fun _ => trivial) ?_ | refine And.intro (fun _ => rfl) ?_ | refine sc (fun _ => And.intro (by omega) trivial) ?_))
      exact h2 (by omega)
    · (repeat (first | refine st ?_ | refine And.intro rfl ?_ | refine sc (by omega) ?_ | refine sc (by simp only [List.length_map, List.length_append, List.length_cons, List.length_nil, List.length_set, List.length_replicate, List.length_singleton] at *; omega) ?_ | refine sc (And.intro (by omega) trivial) ?_ | refine sc (And.intro rfl (Nat.le_of_ble_eq_true rfl)) ?_ | refine sc (And.intro (by simp only [List.length_map, List.length_append, List.length_cons, List.length_nil, List.length_set, List.length_replicate, List.length_singleton] at *; omega) trivial) ?_ | refine sc (by decide) ?_ | refine sc (fun _ => trivial) ?_ | refine And.intro (fun _ => rfl) ?_ | refine sc (fun _ => And.intro (by omega) trivial) ?_))
      intro s
      (repeat (first | refine st ?_ | refine And.intro rfl ?_ | refine sc (by omega) ?_ | refine sc (by simp only [List.length_map, List.length_append, List.length_cons, List.length_nil, List.length_set, List.length_replicate, List.length_singleton] at *; omega) ?_ | refine sc (And.intro (by omega) trivial) ?_ | refine sc (And.intro rfl (Nat.le_of_ble_eq_true rfl)) ?_ | refine sc (And.intro (by simp only [List.length_map, List.length_append, List.length_cons, List.length_nil, List.length_set, List.length_replicate, List.length_singleton] at *; omega) trivial) ?_ | refine sc (by decide) ?_ | refine sc (fun _ => trivial) ?_ | refine And.intro (fun _ => rfl) ?_ | refine sc (fun _ => And.intro (by omega) trivial) ?_))
      intro p
      have e1 : (n * 64).toNat = n.toNat * 64 := by omega
      rw [e1, ← fl_rep]
      refine ent_nil S_wicketref04_Write.c 69 (bg_nil rp ?_)
      exact inc (M := vr p 47 S_wicketref04_Disk.c ⟨s, Sl.nil⟩ :: sl cU8 5 s (fl (List.replicate n.toNat zA)) :: sl S_wicketref04_Write.c 69 Sl.nil [] :: bg rp [] :: F) (ref_shut (m := ⟨List.replicate n.toNat zA, []⟩) (zs := []) rfl (h1 (by omega) p))
theorem len_ok (h : Ent (diskAt p m :: F) (K (.int .i64 m.dur.length))) : Ent (diskAt p m :: F) (callC Try.prog 13 [.pointer (pt p)] K) := by
  refine ent_mono ?_ fun w => nf13_ok
  unfold nf13
  refine disk_open fun s w => ?_
  (repeat (first | refine st ?_ | refine And.intro rfl ?_ | refine sc (by omega) ?_ | refine sc (by simp only [List.length_map, List.length_append, List.length_cons, List.length_nil, List.length_set, List.length_replicate, List.length_singleton] at *; omega) ?_ | refine sc (And.intro (by omega) trivial) ?_ | refine sc (And.intro rfl (Nat.le_of_ble_eq_true rfl)) ?_ | refine sc (And.intro (by simp only [List.length_map, List.length_append, List.length_cons, List.length_nil, List.length_set, List.length_replicate, List.length_singleton] at *; omega) trivial) ?_ | refine sc (by decide) ?_ | refine sc (fun _ => trivial) ?_ | refine And.intro (fun _ => rfl) ?_ | refine sc (fun _ => And.intro (by omega) trivial) ?_))
  exact disk_shut h
theorem refLen_ok (hm : m.dur.length ≤ 4096) (h : Ent (refAt p m :: F) (K (.int .i64 m.dur.length))) : Ent (refAt p m :: F) (callC Try.prog 29 [.pointer (pt p)] K) := by
  refine ent_mono ?_ fun w => nf29_ok
  unfold nf29
  refine ref_open fun s w zs hz => ?_
  (repeat (first | refine st ?_ | refine And.intro rfl ?_ | refine sc (by omega) ?_ | refine sc (by simp only [List.length_map, List.length_append, List.length_cons, List.length_nil, List.length_set, List.length_replicate, List.length_singleton] at *; omega) ?_ | refine sc (And.intro (by omega) trivial) ?_ | refine sc (And.intro rfl (Nat.le_of_ble_eq_true rfl)) ?_ | refine sc (And.intro (by simp only [List.length_map, List.length_append, List.length_cons, List.length_nil, List.length_set, List.length_replicate, List.length_singleton] at *; omega) trivial) ?_ | refine sc (by decide) ?_ | refine sc (fun _ => trivial) ?_ | refine And.intro (fun _ => rfl) ?_ | refine sc (fun _ => And.intro (by omega) trivial) ?_))
  rw [fl_len]
  refine sc ⟨by omega, by rw [tdiv64]; omega, by rw [tdiv64]; omega⟩ ?_
  rw [tdiv64]
  (repeat (first | refine st ?_ | refine And.intro rfl ?_ | refine sc (by omega) ?_ | refine sc (by simp only [List.length_map, List.length_append, List.length_cons, List.length_nil, List.length_set, List.length_replicate, List.length_singleton] at *; omega) ?_ | refine sc (And.intro (by omega) trivial) ?_ | refine sc (And.intro rfl (Nat.le_of_ble_eq_true rfl)) ?_ | refine sc (And.intro (by simp only [List.length_map, List.length_append, List.length_cons, List.length_nil, List.length_set, List.length_replicate, List.length_singleton] at *; omega) trivial) ?_ | refine sc (by decide) ?_ | refine sc (fun _ => trivial) ?_ | refine And.intro (fun _ => rfl) ?_ | refine sc (fun _ => And.intro (by omega) trivial) ?_))
  exact ref_shut hz h
theorem asked_ok {n : Int} (h : Ent (diskAt p m :: F) (K (.int .i64 (rdE m n)))) : Ent (diskAt p m :: F) (callC Try.prog 33 [.pointer (pt p), .int .i64 n] K) := by
  refine ent_mono ?_ fun w => nf33_ok
  unfold nf33
  refine disk_open fun s w => ?_
  unfold rdE at h
  (repeat (first | refine st ?_ | refine And.intro rfl ?_ | refine sc (by omega) ?_ | refine sc (by simp only [List.length_map, List.length_append, List.length_cons, List.length_nil, List.length_set, List.length_replicate, List.length_singleton] at *; omega) ?_ | refine sc (And.intro (by omega) trivial) ?_ | refine sc (And.intro rfl (Nat.le_of_ble_eq_true rfl)) ?_ | refine sc (And.intro (by simp only [List.length_map, List.length_append, List.length_cons, List.length_nil, List.length_set, List.length_replicate, List.length_singleton] at *; omega) trivial) ?_ | refine sc (by decide) ?_ | refine sc (fun _ => trivial) ?_ | refine And.intro (fun _ => rfl) ?_ | refine sc (fun _ => And.intro (by omega) trivial) ?_))
  refine cs (fun h3 => ?_) (fun h3 => ?_)
  · rw [if_neg (by omega)] at h
    (repeat (first | refine st ?_ | refine And.intro rfl ?_ | refine sc (by omega) ?_ | refine sc (by simp only [List.length_map, List.length_append, List.length_cons, List.length_nil, List.length_set, List.length_replicate, List.length_singleton] at *; omega) ?_ | refine sc (And.intro (by omega) trivial) ?_ | refine sc (And.intro rfl (Nat.le_of_ble_eq_true rfl)) ?_ | refine sc (And.intro (by simp only [List.length_map, List.length_append, List.length_cons, List.length_nil, List.length_set, List.length_replicate, List.length_singleton] at *; omega) trivial) ?_ | refine sc (by decide) ?_ | refine sc (fun _ => trivial) ?_ | refine And.intro (fun _ => rfl) ?_ | refine sc (fun _ => And.intro (by omega) trivial) ?_))
    exact disk_shut h
  · (repeat (first | refine st ?_ | refine And.intro rfl ?_ | refine sc (by omega) ?_ | refine sc (by simp only [List.length_map, List.length_append, List.length_cons, List.length_nil, List.length_set, List.length_replicate, List.length_singleton] at *; omega) ?_ | refine sc (And.intro (by omega) trivial) ?_ | refine sc (And.intro rfl (Nat.le_of_ble_eq_true rfl)) ?_ | refine sc (And.intro (by simp only [List.length_map, List.length_append, List.length_cons, List.length_nil, List.length_set, List.length_replicate, List.length_singleton] at *; omega) trivial) ?_ | refine sc (by decide) ?_ | refine sc (fun _ => trivial) ?_ | refine And.intro (fun _ => rfl) ?_ | refine sc (fun _ => And.intro (by omega) trivial) ?_))
    refine cs (fun h4 => ?_) (fun h4 => ?_)
    · rw [if_neg (by omega)] at h
      (repeat (first | refine st ?_ | refine And.intro rfl ?_ | refine sc (by omega) ?_ | refine sc (by simp only [List.length_map, List.length_append, List.length_cons, List.length_nil, List.length_set, List.length_replicate, List.length_singleton] at *; omega) ?_ | refine sc (And.intro (by omega) trivial) ?_ | refine sc (And.intro rfl (Nat.le_of_ble_eq_true rfl)) ?_ | refine sc (And.intro (by simp only [List.length_map, List.length_append, List.length_cons, List.length_nil, List.length_set, List.length_replicate, List.length_singleton] at *; omega) trivial) ?_ | refine sc (by decide) ?_ | refine sc (fun _ => trivial) ?_ | refine And.intro (fun _ => rfl) ?_ | refine sc (fun _ => And.intro (by omega) trivial) ?_))
      exact disk_shut h
    · rw [if_pos (by omega)] at h
      (repeat (first | refine st ?_ | refine And.intro rfl ?_ | refine sc (by omega) ?_ | refine sc (by simp only [List.length_map, List.length_append, List.length_cons, List.length_nil, List.length_set, List.length_replicate, List.length_singleton] at *; omega) ?_ | refine sc (And.intro (by omega) trivial) ?_ | refine sc (And.intro rfl (Nat.le_of_ble_eq_true rfl)) ?_ | refine sc (And.intro (by simp only [List.length_map, List.length_append, List.length_cons, List.length_nil, List.length_set, List.length_replicate, List.length_singleton] at *; omega) trivial) ?_ | refine sc (by decide) ?_ | refine sc (fun _ => trivial) ?_ | refine And.intro (fun _ => rfl) ?_ | refine sc (fun _ => And.intro (by omega) trivial) ?_))
      exact disk_shut h
theorem image_ok (hm : m.dur.length ≤ 4096) (h : ∀ s, Ent (sl cU8 5 s (fl m.dur) :: diskAt p m :: F) (K (sv s))) : Ent (diskAt p m :: F) (callC Try.prog 10 [.pointer (pt p)] K) := by
  refine ent_mono ?_ fun w => nf10_ok
  unfold nf10
  refine disk_open fun s w => ?_
  (repeat (first | refine st ?_ | refine And.intro rfl ?_ | refine sc (by omega) ?_ | refine sc (by simp only [List.length_map, List.length_append, List.length_cons, List.length_nil, List.length_set, List.length_replicate, List.length_singleton] at *; omega) ?_ | refine sc (And.intro (by omega) trivial) ?_ | refine sc (And.intro rfl (Nat.le_of_ble_eq_true rfl)) ?_ | refine sc (And.intro (by simp only [List.length_map, List.length_append, List.length_cons, List.length_nil, List.length_set, List.length_replicate, List.length_singleton] at *; omega) trivial) ?_ | refine sc (by decide) ?_ | refine sc (fun _ => trivial) ?_ | refine And.intro (fun _ => rfl) ?_ | refine sc (fun _ => And.intro (by omega) trivial) ?_))
  intro s1
  (repeat (first | refine st ?_ | refine And.intro rfl ?_ | refine sc (by omega) ?_ | refine sc (by simp only [List.length_map, List.length_append, List.length_cons, List.length_nil, List.length_set, List.length_replicate, List.length_singleton] at *; omega) ?_ | refine sc (And.intro (by omega) trivial) ?_ | refine sc (And.intro rfl (Nat.le_of_ble_eq_true rfl)) ?_ | refine sc (And.intro (by simp only [List.length_map, List.length_append, List.length_cons, List.length_nil, List.length_set, List.length_replicate, List.length_singleton] at *; omega) trivial) ?_ | refine sc (by decide) ?_ | refine sc (fun _ => trivial) ?_ | refine And.intro (fun _ => rfl) ?_ | refine sc (fun _ => And.intro (by omega) trivial) ?_))
  refine ent_loop (γ := Sl × Nat) (fun t => [sv t.1, .int .i64 t.2]) (fun t => sl cU8 5 t.1 (fl (m.dur.take t.2)) :: vr p 61 S_sector_Disk.c ⟨s, w⟩ :: sl cA 64 s m.dur :: sl S_sector_waiting.c 67 w m.ws :: F)
    (fun t => t.2 ≤ m.dur.length) (fun t => m.dur.length - t.2) (s1, 0) rfl (by simp) ⟨fun _ hs => hs⟩ ?_
  intro ⟨s2, i⟩ hi K1 j hK
  simp only [List.headD_cons, List.tail_cons] at *
  refine cs (fun h3 => ?_) (fun h3 => ?_)
  · (repeat (first | refine st ?_ | refine And.intro rfl ?_ | refine sc (by omega) ?_ | refine sc (by simp only [List.length_map, List.length_append, List.length_cons, List.length_nil, List.length_set, List.length_replicate, List.length_singleton] at *; omega) ?_ | refine sc (And.intro (by omega) trivial) ?_ | refine sc (And.intro rfl (Nat.le_of_ble_eq_true rfl)) ?_ | refine sc (And.intro (by simp only [List.length_map, List.length_append, List.length_cons, List.length_nil, List.length_set, List.length_replicate, List.length_singleton] at *; omega) trivial) ?_ | refine sc (by decide) ?_ | refine sc (fun _ => trivial) ?_ | refine And.intro (fun _ => rfl) ?_ | refine sc (fun _ => And.intro (by omega) trivial) ?_))
    intro b
    (repeat (first | refine st ?_ | refine And.intro rfl ?_ | refine sc (by omega) ?_ | refine sc (by simp only [List.length_map, List.length_append, List.length_cons, List.length_nil, List.length_set, List.length_replicate, List.length_singleton] at *; omega) ?_ | refine sc (And.intro (by omega) trivial) ?_ | refine sc (And.intro rfl (Nat.le_of_ble_eq_true rfl)) ?_ | refine sc (And.intro (by simp only [List.length_map, List.length_append, List.length_cons, List.length_nil, List.length_set, List.length_replicate, List.length_singleton] at *; omega) trivial) ?_ | refine sc (by decide) ?_ | refine sc (fun _ => trivial) ?_ | refine And.intro (fun _ => rfl) ?_ | refine sc (fun _ => And.intro (by omega) trivial) ?_))
    intro s3 _
    (repeat (first | refine st ?_ | refine And.intro rfl ?_ | refine sc (by omega) ?_ | refine sc (by simp only [List.length_map, List.length_append, List.length_cons, List.length_nil, List.length_set, List.length_replicate, List.length_singleton] at *; omega) ?_ | refine sc (And.intro (by omega) trivial) ?_ | refine sc (And.intro rfl (Nat.le_of_ble_eq_true rfl)) ?_ | refine sc (And.intro (by simp only [List.length_map, List.length_append, List.length_cons, List.length_nil, List.length_set, List.length_replicate, List.length_singleton] at *; omega) trivial) ?_ | refine sc (by decide) ?_ | refine sc (fun _ => trivial) ?_ | refine And.intro (fun _ => rfl) ?_ | refine sc (fun _ => And.intro (by omega) trivial) ?_))
    refine sc (by rw [fl_len, List.length_take, Arr.len]; omega) ?_
    intro s4
    (repeat (first | refine st ?_ | refine And.intro rfl ?_ | refine sc (by omega) ?_ | refine sc (by simp only [List.length_map, List.length_append, List.length_cons, List.length_nil, List.length_set, List.length_replicate, List.length_singleton] at *; omega) ?_ | refine sc (And.intro (by omega) trivial) ?_ | refine sc (And.intro rfl (Nat.le_of_ble_eq_true rfl)) ?_ | refine sc (And.intro (by simp only [List.length_map, List.length_append, List.length_cons, List.length_nil, List.length_set, List.length_replicate, List.length_singleton] at *; omega) trivial) ?_ | refine sc (by decide) ?_ | refine sc (fun _ => trivial) ?_ | refine And.intro (fun _ => rfl) ?_ | refine sc (fun _ => And.intro (by omega) trivial) ?_))
    rw [← fl_one, ← fl_app, ← take_one (by omega)]
    exact inc (hK (s4, i + 1) (by show i + 1 ≤ _; omega) (by show _ - (i + 1) < _; omega))
  · (repeat (first | refine st ?_ | refine And.intro rfl ?_ | refine sc (by omega) ?_ | refine sc (by simp only [List.length_map, List.length_append, List.length_cons, List.length_nil, List.length_set, List.length_replicate, List.length_singleton] at *; omega) ?_ | refine sc (And.intro (by omega) trivial) ?_ | refine sc (And.intro rfl (Nat.le_of_ble_eq_true rfl)) ?_ | refine sc (And.intro (by simp only [List.length_map, List.length_append, List.length_cons, List.length_nil, List.length_set, List.length_replicate, List.length_singleton] at *; omega) trivial) ?_ | refine sc (by decide) ?_ | refine sc (fun _ => trivial) ?_ | refine And.intro (fun _ => rfl) ?_ | refine sc (fun _ => And.intro (by omega) trivial) ?_))
    have : i = m.dur.length := by omega
    subst this
    rw [List.take_length]
    exact inc (M := vr p 61 S_sector_Disk.c ⟨s, w⟩ :: sl cA 64 s m.dur :: sl S_sector_waiting.c 67 w m.ws :: sl cU8 5 s2 (fl m.dur) :: F) (disk_shut (inc (h s2)))
end
end Go.Proofs.Ytkopggalogppcaa
