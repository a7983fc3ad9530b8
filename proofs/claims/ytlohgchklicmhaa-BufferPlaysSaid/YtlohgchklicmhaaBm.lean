/- Buffers on both sides. -/
import Derived.Test.YtlohgchklicmhaaBs
namespace Go.Proofs.Ytlohgchklicmhaa
set_option linter.unusedSimpArgs false
set_option linter.unusedVariables false
open Go.Dn
set_option linter.unusedSectionVars false
set_option synthInstance.maxSize 10000
set_option synthInstance.maxHeartbeats 400000
set_option maxHeartbeats 2000000
variable [sd : Side]
abbrev V := Arr 32 Int
abbrev cV : Cd V := cArr 32 (cInt .u8)
abbrev zV : V := ⟨List.replicate 32 0, List.length_replicate⟩
structure BM where
  form : List Int
  vals : List (Int × V)
structure RB where
  set : List Int
  writes : List S_api_Image
def bufAt (p : Nat) (m : BM) : HProp := fun h => ∃ (s : Sl) (r : Nat), stars [vr p 62 S_buffer_Buffer.c ⟨s, some r⟩, sl (cInt .i64) 3 s m.form, mp r .i64 cV m.vals] h
def refAt (q : Nat) (m : RB) : HProp := fun h => ∃ (s w : Sl), stars [vr q 64 S_wicketref16_Buffer.c ⟨s, w⟩, sl (cInt .i64) 3 s m.set, sl S_api_Image.c 58 w m.writes] h
theorem buf_open {p : Nat} {m : BM} {F : List HProp} {φ : W} (h : ∀ s r, Ent (vr p 62 S_buffer_Buffer.c ⟨s, some r⟩ :: sl (cInt .i64) 3 s m.form :: mp r .i64 cV m.vals :: F) φ) : Ent (bufAt p m :: F) φ :=
  ent_ex fun s => ent_ex fun r => ent_open (M := [_, _, _]) (fun _ h => h) (h s r)
theorem buf_shut {p : Nat} {m : BM} {F : List HProp} {φ : W} {s : Sl} {r : Nat} (h : Ent (bufAt p m :: F) φ) : Ent (vr p 62 S_buffer_Buffer.c ⟨s, some r⟩ :: sl (cInt .i64) 3 s m.form :: mp r .i64 cV m.vals :: F) φ :=
  ent_shut (M := [_, _, _]) (fun _ h => ⟨s, r, h⟩) h
theorem ref_open {p : Nat} {m : RB} {F : List HProp} {φ : W} (h : ∀ s w, Ent (vr p 64 S_wicketref16_Buffer.c ⟨s, w⟩ :: sl (cInt .i64) 3 s m.set :: sl S_api_Image.c 58 w m.writes :: F) φ) : Ent (refAt p m :: F) φ :=
  ent_ex fun s => ent_ex fun r => ent_open (M := [_, _, _]) (fun _ h => h) (h s r)
theorem ref_shut {p : Nat} {m : RB} {F : List HProp} {φ : W} {s w : Sl} (h : Ent (refAt p m :: F) φ) : Ent (vr p 64 S_wicketref16_Buffer.c ⟨s, w⟩ :: sl (cInt .i64) 3 s m.set :: sl S_api_Image.c 58 w m.writes :: F) φ :=
  ent_shut (M := [_, _, _]) (fun _ h => ⟨s, w, h⟩) h
theorem new_ok {s : Sl} {l : List Int} {K : Value → W} {F : List HProp} [rs : Rs F s (cInt .i64) l] (hlen : l.length ≤ 9223372036854775807)
    (h1 : IsForm l → ∀ p, Ent (bufAt p ⟨l, []⟩ :: F) (K (.tuple #[.pointer (pt p), .int .i64 0]))) (h2 : ¬ IsForm l → Ent F (K (.tuple #[.pointer none, .int .i64 53]))) : Ent F (callC Try.prog 6 [sv s] K) := by
  refine ent_mono ?_ fun w => nf6_ok
  unfold nf6
  refine is_ok (l := l) hlen (fun hf => ?_) (fun hf => ?_)
  · (repeat (first | refine st ?_ | refine And.intro rfl ?_ | refine sc (by omega) ?_ | refine sc (by simp only [List.length_map, List.length_append, List.length_cons, List.length_nil, List.length_set, List.length_replicate, List.length_singleton] at *; omega) ?_ | refine sc (And.intro (by omega) trivial) ?_ | refine sc (And.intro rfl (Nat.le_of_ble_eq_true rfl)) ?_ | refine sc (And.intro (by simp only [List.length_map, List.length_append, List.length_cons, List.length_nil, List.length_set, List.length_replicate, List.length_singleton] at *; omega) trivial) ?_ | refine sc (by decide) ?_ | refine sc (fun _ => trivial) ?_ | refine And.intro (fun _ => rfl) ?_ | refine sc (fun _ => And.intro (by omega) trivial) ?_))
    refine clone05_ok (l := l) (by have := hf.most; omega) fun s2 => ?_
    (repeat (first | refine st ?_ | refine And.intro rfl ?_ | refine sc (by omega) ?_ | refine sc (by simp only [List.length_map, List.length_append, List.length_cons, List.length_nil, List.length_set, List.length_replicate, List.length_singleton] at *; omega) ?_ | refine sc (And.intro (by omega) trivial) ?_ | refine sc (And.intro rfl (Nat.le_of_ble_eq_true rfl)) ?_ | refine sc (And.intro (by simp only [List.length_map, List.length_append, List.length_cons, List.length_nil, List.length_set, List.length_replicate, List.length_singleton] at *; omega) trivial) ?_ | refine sc (by decide) ?_ | refine sc (fun _ => trivial) ?_ | refine And.intro (fun _ => rfl) ?_ | refine sc (fun _ => And.intro (by omega) trivial) ?_))
    intro r
    (repeat (first | refine st ?_ | refine And.intro rfl ?_ | refine sc (by omega) ?_ | refine sc (by simp only [List.length_map, List.length_append, List.length_cons, List.length_nil, List.length_set, List.length_replicate, List.length_singleton] at *; omega) ?_ | refine sc (And.intro (by omega) trivial) ?_ | refine sc (And.intro rfl (Nat.le_of_ble_eq_true rfl)) ?_ | refine sc (And.intro (by simp only [List.length_map, List.length_append, List.length_cons, List.length_nil, List.length_set, List.length_replicate, List.length_singleton] at *; omega) trivial) ?_ | refine sc (by decide) ?_ | refine sc (fun _ => trivial) ?_ | refine And.intro (fun _ => rfl) ?_ | refine sc (fun _ => And.intro (by omega) trivial) ?_))
    intro p
    exact inc (M := vr p 62 S_buffer_Buffer.c ⟨s2, some r⟩ :: sl (cInt .i64) 3 s2 l :: mp r .i64 cV [] :: F) (buf_shut (m := ⟨l, []⟩) (h1 hf p))
  · (repeat (first | refine st ?_ | refine And.intro rfl ?_ | refine sc (by omega) ?_ | refine sc (by simp only [List.length_map, List.length_append, List.length_cons, List.length_nil, List.length_set, List.length_replicate, List.length_singleton] at *; omega) ?_ | refine sc (And.intro (by omega) trivial) ?_ | refine sc (And.intro rfl (Nat.le_of_ble_eq_true rfl)) ?_ | refine sc (And.intro (by simp only [List.length_map, List.length_append, List.length_cons, List.length_nil, List.length_set, List.length_replicate, List.length_singleton] at *; omega) trivial) ?_ | refine sc (by decide) ?_ | refine sc (fun _ => trivial) ?_ | refine And.intro (fun _ => rfl) ?_ | refine sc (fun _ => And.intro (by omega) trivial) ?_))
    exact h2 hf
theorem refNew_ok {s : Sl} {l : List Int} {K : Value → W} {F : List HProp} [rs : Rs F s (cInt .i64) l] (hlen : l.length ≤ 9223372036854775807)
    (h1 : IsForm l → ∀ p, Ent (refAt p ⟨l, []⟩ :: F) (K (.tuple #[.pointer (pt p), .int .i64 0]))) (h2 : ¬ IsForm l → Ent F (K (.tuple #[.pointer none, .int .i64 53]))) : Ent F (callC Try.prog 7 [sv s] K) := by
  refine ent_mono ?_ fun w => nf7_ok
  unfold nf7
  refine refIs_ok (l := l) hlen (fun hf => ?_) (fun hf => ?_)
  · have := hf.most
    (repeat (first | refine st ?_ | refine And.intro rfl ?_ | refine sc (by omega) ?_ | refine sc (by simp only [List.length_map, List.length_append, List.length_cons, List.length_nil, List.length_set, List.length_replicate, List.length_singleton] at *; omega) ?_ | refine sc (And.intro (by omega) trivial) ?_ | refine sc (And.intro rfl (Nat.le_of_ble_eq_true rfl)) ?_ | refine sc (And.intro (by simp only [List.length_map, List.length_append, List.length_cons, List.length_nil, List.length_set, List.length_replicate, List.length_singleton] at *; omega) trivial) ?_ | refine sc (by decide) ?_ | refine sc (fun _ => trivial) ?_ | refine And.intro (fun _ => rfl) ?_ | refine sc (fun _ => And.intro (by omega) trivial) ?_))
    intro s1
    (repeat (first | refine st ?_ | refine And.intro rfl ?_ | refine sc (by omega) ?_ | refine sc (by simp only [List.length_map, List.length_append, List.length_cons, List.length_nil, List.length_set, List.length_replicate, List.length_singleton] at *; omega) ?_ | refine sc (And.intro (by omega) trivial) ?_ | refine sc (And.intro rfl (Nat.le_of_ble_eq_true rfl)) ?_ | refine sc (And.intro (by simp only [List.length_map, List.length_append, List.length_cons, List.length_nil, List.length_set, List.length_replicate, List.length_singleton] at *; omega) trivial) ?_ | refine sc (by decide) ?_ | refine sc (fun _ => trivial) ?_ | refine And.intro (fun _ => rfl) ?_ | refine sc (fun _ => And.intro (by omega) trivial) ?_))
    intro s2
    rw [List.nil_append]
    (repeat (first | refine st ?_ | refine And.intro rfl ?_ | refine sc (by omega) ?_ | refine sc (by simp only [List.length_map, List.length_append, List.length_cons, List.length_nil, List.length_set, List.length_replicate, List.length_singleton] at *; omega) ?_ | refine sc (And.intro (by omega) trivial) ?_ | refine sc (And.intro rfl (Nat.le_of_ble_eq_true rfl)) ?_ | refine sc (And.intro (by simp only [List.length_map, List.length_append, List.length_cons, List.length_nil, List.length_set, List.length_replicate, List.length_singleton] at *; omega) trivial) ?_ | refine sc (by decide) ?_ | refine sc (fun _ => trivial) ?_ | refine And.intro (fun _ => rfl) ?_ | refine sc (fun _ => And.intro (by omega) trivial) ?_))
    intro p
    exact ent_nil S_api_Image.c 58 (inc (M := vr p 64 S_wicketref16_Buffer.c ⟨s2, Sl.nil⟩ :: sl (cInt .i64) 3 s2 l :: sl S_api_Image.c 58 Sl.nil [] :: F) (ref_shut (m := ⟨l, []⟩) (h1 hf p)))
  · (repeat (first | refine st ?_ | refine And.intro rfl ?_ | refine sc (by omega) ?_ | refine sc (by simp only [List.length_map, List.length_append, List.length_cons, List.length_nil, List.length_set, List.length_replicate, List.length_singleton] at *; omega) ?_ | refine sc (And.intro (by omega) trivial) ?_ | refine sc (And.intro rfl (Nat.le_of_ble_eq_true rfl)) ?_ | refine sc (And.intro (by simp only [List.length_map, List.length_append, List.length_cons, List.length_nil, List.length_set, List.length_replicate, List.length_singleton] at *; omega) trivial) ?_ | refine sc (by decide) ?_ | refine sc (fun _ => trivial) ?_ | refine And.intro (fun _ => rfl) ?_ | refine sc (fun _ => And.intro (by omega) trivial) ?_))
    exact h2 hf
theorem refused_ok {p : Nat} {m : BM} {b : Int} {K : Value → W} {F : List HProp} (hf : m.form.length ≤ 16) (h1 : b ∈ m.form → Ent (bufAt p m :: F) (K (.int .i64 0))) (h2 : b ∉ m.form → Ent (bufAt p m :: F) (K (.int .i64 160))) :
    Ent (bufAt p m :: F) (callC Try.prog 29 [.pointer (pt p), .int .i64 b] K) := by
  refine ent_mono ?_ fun w => nf29_ok
  unfold nf29
  refine buf_open fun s r => ?_
  (repeat (first | refine st ?_ | refine And.intro rfl ?_ | refine sc (by omega) ?_ | refine sc (by simp only [List.length_map, List.length_append, List.length_cons, List.length_nil, List.length_set, List.length_replicate, List.length_singleton] at *; omega) ?_ | refine sc (And.intro (by omega) trivial) ?_ | refine sc (And.intro rfl (Nat.le_of_ble_eq_true rfl)) ?_ | refine sc (And.intro (by simp only [List.length_map, List.length_append, List.length_cons, List.length_nil, List.length_set, List.length_replicate, List.length_singleton] at *; omega) trivial) ?_ | refine sc (by decide) ?_ | refine sc (fun _ => trivial) ?_ | refine And.intro (fun _ => rfl) ?_ | refine sc (fun _ => And.intro (by omega) trivial) ?_))
  refine has_ok (l := m.form) (by omega) (fun hb => ?_) (fun hb => ?_)
  · (repeat (first | refine st ?_ | refine And.intro rfl ?_ | refine sc (by omega) ?_ | refine sc (by simp only [List.length_map, List.length_append, List.length_cons, List.length_nil, List.length_set, List.length_replicate, List.length_singleton] at *; omega) ?_ | refine sc (And.intro (by omega) trivial) ?_ | refine sc (And.intro rfl (Nat.le_of_ble_eq_true rfl)) ?_ | refine sc (And.intro (by simp only [List.length_map, List.length_append, List.length_cons, List.length_nil, List.length_set, List.length_replicate, List.length_singleton] at *; omega) trivial) ?_ | refine sc (by decide) ?_ | refine sc (fun _ => trivial) ?_ | refine And.intro (fun _ => rfl) ?_ | refine sc (fun _ => And.intro (by omega) trivial) ?_))
    exact buf_shut (h1 hb)
  · (repeat (first | refine st ?_ | refine And.intro rfl ?_ | refine sc (by omega) ?_ | refine sc (by simp only [List.length_map, List.length_append, List.length_cons, List.length_nil, List.length_set, List.length_replicate, List.length_singleton] at *; omega) ?_ | refine sc (And.intro (by omega) trivial) ?_ | refine sc (And.intro rfl (Nat.le_of_ble_eq_true rfl)) ?_ | refine sc (And.intro (by simp only [List.length_map, List.length_append, List.length_cons, List.length_nil, List.length_set, List.length_replicate, List.length_singleton] at *; omega) trivial) ?_ | refine sc (by decide) ?_ | refine sc (fun _ => trivial) ?_ | refine And.intro (fun _ => rfl) ?_ | refine sc (fun _ => And.intro (by omega) trivial) ?_))
    exact buf_shut (h2 hb)
open Classical in
noncomputable def outside (form : List Int) (b : Int) : Int := if b ∈ form then 0 else 160
open Classical in
noncomputable def wrM (m : BM) (b : Int) (v : V) : BM := if b ∈ m.form then ⟨m.form, upd m.vals b v⟩ else m
theorem write_ok {p : Nat} {m : BM} {b : Int} {v : V} {K : Value → W} {F : List HProp} (hf : m.form.length ≤ 16) (h : Ent (bufAt p (wrM m b v) :: F) (K (.int .i64 (outside m.form b)))) :
    Ent (bufAt p m :: F) (callC Try.prog 15 [.pointer (pt p), .int .i64 b, cV.val v] K) := by
  refine ent_mono ?_ fun w => nf15_ok
  unfold nf15
  refine st ?_
  intro q
  refine ent_take (A := bufAt p m) (refused_ok hf (fun hb => ?_) (fun hb => ?_))
  · unfold wrM outside at h
    rw [if_pos hb, if_pos hb] at h
    refine buf_open fun s r => ?_
    refine ct rfl ?_
    (repeat (first | refine st ?_ | refine And.intro rfl ?_ | refine sc (by omega) ?_ | refine sc (by simp only [List.length_map, List.length_append, List.length_cons, List.length_nil, List.length_set, List.length_replicate, List.length_singleton] at *; omega) ?_ | refine sc (And.intro (by omega) trivial) ?_ | refine sc (And.intro rfl (Nat.le_of_ble_eq_true rfl)) ?_ | refine sc (And.intro (by simp only [List.length_map, List.length_append, List.length_cons, List.length_nil, List.length_set, List.length_replicate, List.length_singleton] at *; omega) trivial) ?_ | refine sc (by decide) ?_ | refine sc (fun _ => trivial) ?_ | refine And.intro (fun _ => rfl) ?_ | refine sc (fun _ => And.intro (by omega) trivial) ?_))
    exact buf_shut (m := ⟨m.form, upd m.vals b v⟩) (inc h)
  · unfold wrM outside at h
    rw [if_neg hb, if_neg hb] at h
    refine cf (by decide) ?_
    (repeat (first | refine st ?_ | refine And.intro rfl ?_ | refine sc (by omega) ?_ | refine sc (by simp only [List.length_map, List.length_append, List.length_cons, List.length_nil, List.length_set, List.length_replicate, List.length_singleton] at *; omega) ?_ | refine sc (And.intro (by omega) trivial) ?_ | refine sc (And.intro rfl (Nat.le_of_ble_eq_true rfl)) ?_ | refine sc (And.intro (by simp only [List.length_map, List.length_append, List.length_cons, List.length_nil, List.length_set, List.length_replicate, List.length_singleton] at *; omega) trivial) ?_ | refine sc (by decide) ?_ | refine sc (fun _ => trivial) ?_ | refine And.intro (fun _ => rfl) ?_ | refine sc (fun _ => And.intro (by omega) trivial) ?_))
    exact inc h
open Classical in
noncomputable def rdM (form : List Int) (o : Option V) (b : Int) : V × Bool := if b ∈ form then (o.getD zV, o.isSome) else (zV, false)
theorem read_ok {p : Nat} {m : BM} {b : Int} {K : Value → W} {F : List HProp} (hf : m.form.length ≤ 16) (h : Ent (bufAt p m :: F) (K (.tuple #[cV.val (rdM m.form (lkp m.vals b) b).1, .bool (rdM m.form (lkp m.vals b) b).2, .int .i64 (outside m.form b)]))) :
    Ent (bufAt p m :: F) (callC Try.prog 16 [.pointer (pt p), .int .i64 b] K) := by
  refine ent_mono ?_ fun w => nf16_ok
  unfold nf16
  refine st ?_
  intro q
  refine ent_take (A := bufAt p m) (refused_ok hf (fun hb => ?_) (fun hb => ?_))
  · unfold rdM outside at h
    rw [if_pos hb, if_pos hb] at h
    refine buf_open fun s r => ?_
    refine ct rfl ?_
    (repeat (first | refine st ?_ | refine And.intro rfl ?_ | refine sc (by omega) ?_ | refine sc (by simp only [List.length_map, List.length_append, List.length_cons, List.length_nil, List.length_set, List.length_replicate, List.length_singleton] at *; omega) ?_ | refine sc (And.intro (by omega) trivial) ?_ | refine sc (And.intro rfl (Nat.le_of_ble_eq_true rfl)) ?_ | refine sc (And.intro (by simp only [List.length_map, List.length_append, List.length_cons, List.length_nil, List.length_set, List.length_replicate, List.length_singleton] at *; omega) trivial) ?_ | refine sc (by decide) ?_ | refine sc (fun _ => trivial) ?_ | refine And.intro (fun _ => rfl) ?_ | refine sc (fun _ => And.intro (by omega) trivial) ?_))
    exact buf_shut (inc h)
  · unfold rdM outside at h
    rw [if_neg hb, if_neg hb] at h
    refine cf (by decide) ?_
    (repeat (first | refine st ?_ | refine And.intro rfl ?_ | refine sc (by omega) ?_ | refine sc (by simp only [List.length_map, List.length_append, List.length_cons, List.length_nil, List.length_set, List.length_replicate, List.length_singleton] at *; omega) ?_ | refine sc (And.intro (by omega) trivial) ?_ | refine sc (And.intro rfl (Nat.le_of_ble_eq_true rfl)) ?_ | refine sc (And.intro (by simp only [List.length_map, List.length_append, List.length_cons, List.length_nil, List.length_set, List.length_replicate, List.length_singleton] at *; omega) trivial) ?_ | refine sc (by decide) ?_ | refine sc (fun _ => trivial) ?_ | refine And.intro (fun _ => rfl) ?_ | refine sc (fun _ => And.intro (by omega) trivial) ?_))
    exact inc h
def imgs (form : List Int) (o : Int → Option V) : List S_api_Image := form.filterMap fun b => (o b).map fun v => ⟨b, v⟩
theorem imgs_le {form : List Int} {o : Int → Option V} : (imgs form o).length ≤ form.length := List.length_filterMap_le _ _
theorem images_ok {p : Nat} {m : BM} {K : Value → W} {F : List HProp} (hf : m.form.length ≤ 16) (h : ∀ s, Ent (sl S_api_Image.c 58 s (imgs m.form (lkp m.vals)) :: bufAt p m :: F) (K (sv s))) :
    Ent (bufAt p m :: F) (callC Try.prog 17 [.pointer (pt p)] K) := by
  refine ent_mono ?_ fun w => nf17_ok
  unfold nf17
  refine buf_open fun s r => ?_
  (repeat (first | refine st ?_ | refine And.intro rfl ?_ | refine sc (by omega) ?_ | refine sc (by simp only [List.length_map, List.length_append, List.length_cons, List.length_nil, List.length_set, List.length_replicate, List.length_singleton] at *; omega) ?_ | refine sc (And.intro (by omega) trivial) ?_ | refine sc (And.intro rfl (Nat.le_of_ble_eq_true rfl)) ?_ | refine sc (And.intro (by simp only [List.length_map, List.length_append, List.length_cons, List.length_nil, List.length_set, List.length_replicate, List.length_singleton] at *; omega) trivial) ?_ | refine sc (by decide) ?_ | refine sc (fun _ => trivial) ?_ | refine And.intro (fun _ => rfl) ?_ | refine sc (fun _ => And.intro (by omega) trivial) ?_))
  refine ent_nil S_api_Image.c 58 ?_
  refine ent_loop1 (γ := Sl × Nat) (fun t => [sv t.1, .int .i64 t.2]) (fun t => sl S_api_Image.c 58 t.1 (imgs (m.form.take t.2) (lkp m.vals))) (fun t => t.2 ≤ m.form.length) (fun t => m.form.length - t.2) (Sl.nil, 0) rfl (by show 0 ≤ _; omega) ?_
  intro ⟨o, i⟩ hi K1 j hK
  simp only [List.headD_cons, List.tail_cons] at *
  have hle := imgs_le (form := m.form.take i) (o := lkp m.vals)
  rw [List.length_take] at hle
  (repeat (first | refine st ?_ | refine And.intro rfl ?_ | refine sc (by omega) ?_ | refine sc (by simp only [List.length_map, List.length_append, List.length_cons, List.length_nil, List.length_set, List.length_replicate, List.length_singleton] at *; omega) ?_ | refine sc (And.intro (by omega) trivial) ?_ | refine sc (And.intro rfl (Nat.le_of_ble_eq_true rfl)) ?_ | refine sc (And.intro (by simp only [List.length_map, List.length_append, List.length_cons, List.length_nil, List.length_set, List.length_replicate, List.length_singleton] at *; omega) trivial) ?_ | refine sc (by decide) ?_ | refine sc (fun _ => trivial) ?_ | refine And.intro (fun _ => rfl) ?_ | refine sc (fun _ => And.intro (by omega) trivial) ?_))
  refine cs (fun h1 => ?_) (fun h1 => ?_)
  · have hi1 : i < m.form.length := by omega
    (repeat (first | refine st ?_ | refine And.intro rfl ?_ | refine sc (by omega) ?_ | refine sc (by simp only [List.length_map, List.length_append, List.length_cons, List.length_nil, List.length_set, List.length_replicate, List.length_singleton] at *; omega) ?_ | refine sc (And.intro (by omega) trivial) ?_ | refine sc (And.intro rfl (Nat.le_of_ble_eq_true rfl)) ?_ | refine sc (And.intro (by simp only [List.length_map, List.length_append, List.length_cons, List.length_nil, List.length_set, List.length_replicate, List.length_singleton] at *; omega) trivial) ?_ | refine sc (by decide) ?_ | refine sc (fun _ => trivial) ?_ | refine And.intro (fun _ => rfl) ?_ | refine sc (fun _ => And.intro (by omega) trivial) ?_))
    intro q
    have e1 : imgs (m.form.take (i + 1)) (lkp m.vals) = imgs (m.form.take i) (lkp m.vals) ++ ((lkp m.vals (m.form.getD i default)).map fun v => (⟨m.form.getD i default, v⟩ : S_api_Image)).toList := filterMap_one hi1
    (repeat (first | refine st ?_ | refine And.intro rfl ?_ | refine sc (by omega) ?_ | refine sc (by simp only [List.length_map, List.length_append, List.length_cons, List.length_nil, List.length_set, List.length_replicate, List.length_singleton] at *; omega) ?_ | refine sc (And.intro (by omega) trivial) ?_ | refine sc (And.intro rfl (Nat.le_of_ble_eq_true rfl)) ?_ | refine sc (And.intro (by simp only [List.length_map, List.length_append, List.length_cons, List.length_nil, List.length_set, List.length_replicate, List.length_singleton] at *; omega) trivial) ?_ | refine sc (by decide) ?_ | refine sc (fun _ => trivial) ?_ | refine And.intro (fun _ => rfl) ?_ | refine sc (fun _ => And.intro (by omega) trivial) ?_))
    cases hv : lkp m.vals (m.form.getD i default) with
    | none =>
      rw [hv] at e1
      simp only [Option.isSome_none, Option.getD_none, Option.map_none, Option.toList_none, List.append_nil] at *
      (repeat (first | refine st ?_ | refine And.intro rfl ?_ | refine sc (by omega) ?_ | refine sc (by simp only [List.length_map, List.length_append, List.length_cons, List.length_nil, List.length_set, List.length_replicate, List.length_singleton] at *; omega) ?_ | refine sc (And.intro (by omega) trivial) ?_ | refine sc (And.intro rfl (Nat.le_of_ble_eq_true rfl)) ?_ | refine sc (And.intro (by simp only [List.length_map, List.length_append, List.length_cons, List.length_nil, List.length_set, List.length_replicate, List.length_singleton] at *; omega) trivial) ?_ | refine sc (by decide) ?_ | refine sc (fun _ => trivial) ?_ | refine And.intro (fun _ => rfl) ?_ | refine sc (fun _ => And.intro (by omega) trivial) ?_))
      unfold nf17_1
      (repeat (first | refine st ?_ | refine And.intro rfl ?_ | refine sc (by omega) ?_ | refine sc (by simp only [List.length_map, List.length_append, List.length_cons, List.length_nil, List.length_set, List.length_replicate, List.length_singleton] at *; omega) ?_ | refine sc (And.intro (by omega) trivial) ?_ | refine sc (And.intro rfl (Nat.le_of_ble_eq_true rfl)) ?_ | refine sc (And.intro (by simp only [List.length_map, List.length_append, List.length_cons, List.length_nil, List.length_set, List.length_replicate, List.length_singleton] at *; omega) trivial) ?_ | refine sc (by decide) ?_ | refine sc (fun _ => trivial) ?_ | refine And.intro (fun _ => rfl) ?_ | refine sc (fun _ => And.intro (by omega) trivial) ?_))
      have h9 := hK (o, i + 1) (by show i + 1 ≤ _; omega) (by show _ - (i + 1) < _; omega)
      simp only [e1] at h9
      exact inc h9
    | some v =>
      rw [hv] at e1
      simp only [Option.isSome_some, Option.getD_some, Option.map_some, Option.toList_some] at *
      (repeat (first | refine st ?_ | refine And.intro rfl ?_ | refine sc (by omega) ?_ | refine sc (by simp only [List.length_map, List.length_append, List.length_cons, List.length_nil, List.length_set, List.length_replicate, List.length_singleton] at *; omega) ?_ | refine sc (And.intro (by omega) trivial) ?_ | refine sc (And.intro rfl (Nat.le_of_ble_eq_true rfl)) ?_ | refine sc (And.intro (by simp only [List.length_map, List.length_append, List.length_cons, List.length_nil, List.length_set, List.length_replicate, List.length_singleton] at *; omega) trivial) ?_ | refine sc (by decide) ?_ | refine sc (fun _ => trivial) ?_ | refine And.intro (fun _ => rfl) ?_ | refine sc (fun _ => And.intro (by omega) trivial) ?_))
      intro s2
      (repeat (first | refine st ?_ | refine And.intro rfl ?_ | refine sc (by omega) ?_ | refine sc (by simp only [List.length_map, List.length_append, List.length_cons, List.length_nil, List.length_set, List.length_replicate, List.length_singleton] at *; omega) ?_ | refine sc (And.intro (by omega) trivial) ?_ | refine sc (And.intro rfl (Nat.le_of_ble_eq_true rfl)) ?_ | refine sc (And.intro (by simp only [List.length_map, List.length_append, List.length_cons, List.length_nil, List.length_set, List.length_replicate, List.length_singleton] at *; omega) trivial) ?_ | refine sc (by decide) ?_ | refine sc (fun _ => trivial) ?_ | refine And.intro (fun _ => rfl) ?_ | refine sc (fun _ => And.intro (by omega) trivial) ?_))
      intro s3
      unfold nf17_1
      (repeat (first | refine st ?_ | refine And.intro rfl ?_ | refine sc (by omega) ?_ | refine sc (by simp only [List.length_map, List.length_append, List.length_cons, List.length_nil, List.length_set, List.length_replicate, List.length_singleton] at *; omega) ?_ | refine sc (And.intro (by omega) trivial) ?_ | refine sc (And.intro rfl (Nat.le_of_ble_eq_true rfl)) ?_ | refine sc (And.intro (by simp only [List.length_map, List.length_append, List.length_cons, List.length_nil, List.length_set, List.length_replicate, List.length_singleton] at *; omega) trivial) ?_ | refine sc (by decide) ?_ | refine sc (fun _ => trivial) ?_ | refine And.intro (fun _ => rfl) ?_ | refine sc (fun _ => And.intro (by omega) trivial) ?_))
      have h9 := hK (s3, i + 1) (by show i + 1 ≤ _; omega) (by show _ - (i + 1) < _; omega)
      simp only [e1] at h9
      exact inc h9
  · have hil : i = m.form.length := by omega
    subst hil
    rw [List.take_length]
    (repeat (first | refine st ?_ | refine And.intro rfl ?_ | refine sc (by omega) ?_ | refine sc (by simp only [List.length_map, List.length_append, List.length_cons, List.length_nil, List.length_set, List.length_replicate, List.length_singleton] at *; omega) ?_ | refine sc (And.intro (by omega) trivial) ?_ | refine sc (And.intro rfl (Nat.le_of_ble_eq_true rfl)) ?_ | refine sc (And.intro (by simp only [List.length_map, List.length_append, List.length_cons, List.length_nil, List.length_set, List.length_replicate, List.length_singleton] at *; omega) trivial) ?_ | refine sc (by decide) ?_ | refine sc (fun _ => trivial) ?_ | refine And.intro (fun _ => rfl) ?_ | refine sc (fun _ => And.intro (by omega) trivial) ?_))
    exact ent_swap (ent_take (A := mp r .i64 cV m.vals) (ent_take (A := sl (cInt .i64) 3 s m.form) (ent_take (A := vr p 62 S_buffer_Buffer.c ⟨s, some r⟩) (buf_shut (ent_take (A := sl S_api_Image.c 58 o (imgs m.form (lkp m.vals))) (h o))))))
theorem form_ok {p : Nat} {m : BM} {K : Value → W} {F : List HProp} (hf : m.form.length ≤ 16) (h : ∀ s, Ent (sl (cInt .i64) 3 s m.form :: bufAt p m :: F) (K (sv s))) :
    Ent (bufAt p m :: F) (callC Try.prog 27 [.pointer (pt p)] K) := by
  refine ent_mono ?_ fun w => nf27_ok
  unfold nf27
  refine buf_open fun s r => ?_
  (repeat (first | refine st ?_ | refine And.intro rfl ?_ | refine sc (by omega) ?_ | refine sc (by simp only [List.length_map, List.length_append, List.length_cons, List.length_nil, List.length_set, List.length_replicate, List.length_singleton] at *; omega) ?_ | refine sc (And.intro (by omega) trivial) ?_ | refine sc (And.intro rfl (Nat.le_of_ble_eq_true rfl)) ?_ | refine sc (And.intro (by simp only [List.length_map, List.length_append, List.length_cons, List.length_nil, List.length_set, List.length_replicate, List.length_singleton] at *; omega) trivial) ?_ | refine sc (by decide) ?_ | refine sc (fun _ => trivial) ?_ | refine And.intro (fun _ => rfl) ?_ | refine sc (fun _ => And.intro (by omega) trivial) ?_))
  refine clone05_ok (l := m.form) (by omega) fun s2 => ?_
  exact inc (M := vr p 62 S_buffer_Buffer.c ⟨s, some r⟩ :: sl (cInt .i64) 3 s m.form :: mp r .i64 cV m.vals :: sl (cInt .i64) 3 s2 m.form :: F) (buf_shut (ent_take (A := sl (cInt .i64) 3 s2 m.form) (h s2)))
theorem len_ok {p : Nat} {m : BM} {K : Value → W} {F : List HProp} (h : Ent (bufAt p m :: F) (K (.int .i64 m.vals.length))) : Ent (bufAt p m :: F) (callC Try.prog 14 [.pointer (pt p)] K) := by
  refine ent_mono ?_ fun w => nf14_ok
  unfold nf14
  refine buf_open fun s r => ?_
  (repeat (first | refine st ?_ | refine And.intro rfl ?_ | refine sc (by omega) ?_ | refine sc (by simp only [List.length_map, List.length_append, List.length_cons, List.length_nil, List.length_set, List.length_replicate, List.length_singleton] at *; omega) ?_ | refine sc (And.intro (by omega) trivial) ?_ | refine sc (And.intro rfl (Nat.le_of_ble_eq_true rfl)) ?_ | refine sc (And.intro (by simp only [List.length_map, List.length_append, List.length_cons, List.length_nil, List.length_set, List.length_replicate, List.length_singleton] at *; omega) trivial) ?_ | refine sc (by decide) ?_ | refine sc (fun _ => trivial) ?_ | refine And.intro (fun _ => rfl) ?_ | refine sc (fun _ => And.intro (by omega) trivial) ?_))
  exact buf_shut h
instance : ClT Try.prog 33 := ⟨⟨_, Try.func33, by kernel_rfl, by kernel_rfl, by kernel_rfl, rfl⟩⟩
theorem copy_ok {p : Nat} {m : BM} {K : Value → W} {F : List HProp} (hf : m.form.length ≤ 16) (h : ∀ q, Ent (bufAt q m :: bufAt p m :: F) (K (.pointer (pt q)))) : Ent (bufAt p m :: F) (callC Try.prog 25 [.pointer (pt p)] K) := by
  refine ent_mono ?_ fun w => nf25_ok
  unfold nf25
  refine buf_open fun s r => ?_
  (repeat (first | refine st ?_ | refine And.intro rfl ?_ | refine sc (by omega) ?_ | refine sc (by simp only [List.length_map, List.length_append, List.length_cons, List.length_nil, List.length_set, List.length_replicate, List.length_singleton] at *; omega) ?_ | refine sc (And.intro (by omega) trivial) ?_ | refine sc (And.intro rfl (Nat.le_of_ble_eq_true rfl)) ?_ | refine sc (And.intro (by simp only [List.length_map, List.length_append, List.length_cons, List.length_nil, List.length_set, List.length_replicate, List.length_singleton] at *; omega) trivial) ?_ | refine sc (by decide) ?_ | refine sc (fun _ => trivial) ?_ | refine And.intro (fun _ => rfl) ?_ | refine sc (fun _ => And.intro (by omega) trivial) ?_))
  refine clone05_ok (l := m.form) (by omega) fun s2 => ?_
  (repeat (first | refine st ?_ | refine And.intro rfl ?_ | refine sc (by omega) ?_ | refine sc (by simp only [List.length_map, List.length_append, List.length_cons, List.length_nil, List.length_set, List.length_replicate, List.length_singleton] at *; omega) ?_ | refine sc (And.intro (by omega) trivial) ?_ | refine sc (And.intro rfl (Nat.le_of_ble_eq_true rfl)) ?_ | refine sc (And.intro (by simp only [List.length_map, List.length_append, List.length_cons, List.length_nil, List.length_set, List.length_replicate, List.length_singleton] at *; omega) trivial) ?_ | refine sc (by decide) ?_ | refine sc (fun _ => trivial) ?_ | refine And.intro (fun _ => rfl) ?_ | refine sc (fun _ => And.intro (by omega) trivial) ?_))
  refine ent_mono ?_ fun w => nf31_ok
  unfold nf31
  (repeat (first | refine st ?_ | refine And.intro rfl ?_ | refine sc (by omega) ?_ | refine sc (by simp only [List.length_map, List.length_append, List.length_cons, List.length_nil, List.length_set, List.length_replicate, List.length_singleton] at *; omega) ?_ | refine sc (And.intro (by omega) trivial) ?_ | refine sc (And.intro rfl (Nat.le_of_ble_eq_true rfl)) ?_ | refine sc (And.intro (by simp only [List.length_map, List.length_append, List.length_cons, List.length_nil, List.length_set, List.length_replicate, List.length_singleton] at *; omega) trivial) ?_ | refine sc (by decide) ?_ | refine sc (fun _ => trivial) ?_ | refine And.intro (fun _ => rfl) ?_ | refine sc (fun _ => And.intro (by omega) trivial) ?_))
  refine ent_clone fun r2 => ?_
  (repeat (first | refine st ?_ | refine And.intro rfl ?_ | refine sc (by omega) ?_ | refine sc (by simp only [List.length_map, List.length_append, List.length_cons, List.length_nil, List.length_set, List.length_replicate, List.length_singleton] at *; omega) ?_ | refine sc (And.intro (by omega) trivial) ?_ | refine sc (And.intro rfl (Nat.le_of_ble_eq_true rfl)) ?_ | refine sc (And.intro (by simp only [List.length_map, List.length_append, List.length_cons, List.length_nil, List.length_set, List.length_replicate, List.length_singleton] at *; omega) trivial) ?_ | refine sc (by decide) ?_ | refine sc (fun _ => trivial) ?_ | refine And.intro (fun _ => rfl) ?_ | refine sc (fun _ => And.intro (by omega) trivial) ?_))
  intro q
  refine inc (M := vr p 62 S_buffer_Buffer.c ⟨s, some r⟩ :: sl (cInt .i64) 3 s m.form :: mp r .i64 cV m.vals :: vr q 62 S_buffer_Buffer.c ⟨s2, some r2⟩ :: sl (cInt .i64) 3 s2 m.form :: mp r2 .i64 cV m.vals :: F) (buf_shut ?_)
  exact inc (M := vr q 62 S_buffer_Buffer.c ⟨s2, some r2⟩ :: sl (cInt .i64) 3 s2 m.form :: mp r2 .i64 cV m.vals :: bufAt p m :: F) (buf_shut (h q))
/-! ## The document's buffer -/
def lastW (ws : List S_api_Image) (b : Int) : Option V := ws.foldl (fun o e => if e.Block = b then some e.Value else o) none
theorem lastW_snoc {ws : List S_api_Image} {e : S_api_Image} {b : Int} : lastW (ws ++ [e]) b = if e.Block = b then some e.Value else lastW ws b := by
  unfold lastW; rw [List.foldl_append]; rfl
theorem lastW_skip {ws : List S_api_Image} {b : Int} {o : Option V} (h : ∀ e ∈ ws, e.Block ≠ b) : ws.foldl (fun o e => if e.Block = b then some e.Value else o) o = o := by
  induction ws generalizing o with
  | nil => rfl
  | cons e ws ih =>
    rw [List.foldl_cons, if_neg (h e (.head _))]
    exact ih fun x hx => h x (.tail _ hx)
theorem drop_no {ws : List S_api_Image} {b : Int} {n : Nat} (h : ∀ j, n ≤ j → j < ws.length → (ws.getD j default).Block ≠ b) : ∀ e ∈ ws.drop n, e.Block ≠ b := by
  intro e he
  obtain ⟨i, hi, rfl⟩ := mem_getD he
  rw [List.length_drop] at hi
  rw [getD_drop]
  exact h (n + i) (by omega) (by omega)
theorem lastW_at {ws : List S_api_Image} {b : Int} {n : Nat} (hn : n < ws.length) (h : ∀ j, n + 1 ≤ j → j < ws.length → (ws.getD j default).Block ≠ b) (hb : (ws.getD n default).Block = b) : lastW ws b = some (ws.getD n default).Value := by
  have e : ws = ws.take n ++ [ws.getD n default] ++ ws.drop (n + 1) := by rw [← take_one hn, List.take_append_drop]
  unfold lastW
  rw [e, List.foldl_append, lastW_skip (drop_no h), List.foldl_append]
  show (if (ws.getD n default).Block = b then some (ws.getD n default).Value else _) = some ((ws.take n ++ [ws.getD n default] ++ ws.drop (n + 1)).getD n default).Value
  rw [← e, if_pos hb]
theorem lastW_none {ws : List S_api_Image} {b : Int} (h : ∀ j, j < ws.length → (ws.getD j default).Block ≠ b) : lastW ws b = none :=
  lastW_skip fun e he => by obtain ⟨i, hi, rfl⟩ := mem_getD he; exact h i hi
theorem refRead_ok {p : Nat} {m : RB} {b : Int} {K : Value → W} {F : List HProp} (hf : m.set.length ≤ 16) (hw : m.writes.length ≤ 1000000) (h : Ent (refAt p m :: F) (K (.tuple #[cV.val (rdM m.set (lastW m.writes b) b).1, .bool (rdM m.set (lastW m.writes b) b).2, .int .i64 (outside m.set b)]))) :
    Ent (refAt p m :: F) (callC Try.prog 24 [.pointer (pt p), .int .i64 b] K) := by
  refine ent_mono ?_ fun w => nf24_ok
  unfold nf24
  refine ref_open fun s ww => ?_
  refine st ?_
  intro q
  (repeat (first | refine st ?_ | refine And.intro rfl ?_ | refine sc (by omega) ?_ | refine sc (by simp only [List.length_map, List.length_append, List.length_cons, List.length_nil, List.length_set, List.length_replicate, List.length_singleton] at *; omega) ?_ | refine sc (And.intro (by omega) trivial) ?_ | refine sc (And.intro rfl (Nat.le_of_ble_eq_true rfl)) ?_ | refine sc (And.intro (by simp only [List.length_map, List.length_append, List.length_cons, List.length_nil, List.length_set, List.length_replicate, List.length_singleton] at *; omega) trivial) ?_ | refine sc (by decide) ?_ | refine sc (fun _ => trivial) ?_ | refine And.intro (fun _ => rfl) ?_ | refine sc (fun _ => And.intro (by omega) trivial) ?_))
  refine refHas_ok (l := m.set) (by omega) (fun hb => ?_) (fun hb => ?_)
  · unfold rdM outside at h
    rw [if_pos hb, if_pos hb] at h
    (repeat (first | refine st ?_ | refine And.intro rfl ?_ | refine sc (by omega) ?_ | refine sc (by simp only [List.length_map, List.length_append, List.length_cons, List.length_nil, List.length_set, List.length_replicate, List.length_singleton] at *; omega) ?_ | refine sc (And.intro (by omega) trivial) ?_ | refine sc (And.intro rfl (Nat.le_of_ble_eq_true rfl)) ?_ | refine sc (And.intro (by simp only [List.length_map, List.length_append, List.length_cons, List.length_nil, List.length_set, List.length_replicate, List.length_singleton] at *; omega) trivial) ?_ | refine sc (by decide) ?_ | refine sc (fun _ => trivial) ?_ | refine And.intro (fun _ => rfl) ?_ | refine sc (fun _ => And.intro (by omega) trivial) ?_))
    refine ent_loop0 (γ := Nat) (fun n => [.int .i64 ((n : Int) - 1)]) (fun n => n ≤ m.writes.length ∧ ∀ j, n ≤ j → j < m.writes.length → (m.writes.getD j default).Block ≠ b) (fun n => n) m.writes.length rfl ⟨Nat.le_refl _, fun j h1 h2 => by omega⟩ ?_
    intro n ⟨hn, hno⟩ K1 j hK
    simp only [List.headD_cons] at *
    refine cs (fun h1 => ?_) (fun h1 => ?_)
    · (repeat (first | refine st ?_ | refine And.intro rfl ?_ | refine sc (by omega) ?_ | refine sc (by simp only [List.length_map, List.length_append, List.length_cons, List.length_nil, List.length_set, List.length_replicate, List.length_singleton] at *; omega) ?_ | refine sc (And.intro (by omega) trivial) ?_ | refine sc (And.intro rfl (Nat.le_of_ble_eq_true rfl)) ?_ | refine sc (And.intro (by simp only [List.length_map, List.length_append, List.length_cons, List.length_nil, List.length_set, List.length_replicate, List.length_singleton] at *; omega) trivial) ?_ | refine sc (by decide) ?_ | refine sc (fun _ => trivial) ?_ | refine And.intro (fun _ => rfl) ?_ | refine sc (fun _ => And.intro (by omega) trivial) ?_))
      rw [show ((n : Int) - 1).toNat = n - 1 from by omega]
      refine cs (fun h2 => ?_) (fun h2 => ?_)
      · (repeat (first | refine st ?_ | refine And.intro rfl ?_ | refine sc (by omega) ?_ | refine sc (by simp only [List.length_map, List.length_append, List.length_cons, List.length_nil, List.length_set, List.length_replicate, List.length_singleton] at *; omega) ?_ | refine sc (And.intro (by omega) trivial) ?_ | refine sc (And.intro rfl (Nat.le_of_ble_eq_true rfl)) ?_ | refine sc (And.intro (by simp only [List.length_map, List.length_append, List.length_cons, List.length_nil, List.length_set, List.length_replicate, List.length_singleton] at *; omega) trivial) ?_ | refine sc (by decide) ?_ | refine sc (fun _ => trivial) ?_ | refine And.intro (fun _ => rfl) ?_ | refine sc (fun _ => And.intro (by omega) trivial) ?_))
        rw [show ((n : Int) - 1).toNat = n - 1 from by omega]
        rw [lastW_at (n := n - 1) (by omega) (fun j h3 h4 => hno j (by omega) h4) h2] at h
        exact ent_drop (ref_shut h)
      · (repeat (first | refine st ?_ | refine And.intro rfl ?_ | refine sc (by omega) ?_ | refine sc (by simp only [List.length_map, List.length_append, List.length_cons, List.length_nil, List.length_set, List.length_replicate, List.length_singleton] at *; omega) ?_ | refine sc (And.intro (by omega) trivial) ?_ | refine sc (And.intro rfl (Nat.le_of_ble_eq_true rfl)) ?_ | refine sc (And.intro (by simp only [List.length_map, List.length_append, List.length_cons, List.length_nil, List.length_set, List.length_replicate, List.length_singleton] at *; omega) trivial) ?_ | refine sc (by decide) ?_ | refine sc (fun _ => trivial) ?_ | refine And.intro (fun _ => rfl) ?_ | refine sc (fun _ => And.intro (by omega) trivial) ?_))
        have h9 := hK (n - 1) ⟨by omega, fun j h3 h4 => ?_⟩ (by omega)
        · rw [show ((n - 1 : Nat) : Int) - 1 = (n : Int) - 1 - 1 from by omega] at h9
          exact h9
        · by_cases hj : n ≤ j
          · exact hno j hj h4
          · have : j = n - 1 := by omega
            subst this; exact h2
    · (repeat (first | refine st ?_ | refine And.intro rfl ?_ | refine sc (by omega) ?_ | refine sc (by simp only [List.length_map, List.length_append, List.length_cons, List.length_nil, List.length_set, List.length_replicate, List.length_singleton] at *; omega) ?_ | refine sc (And.intro (by omega) trivial) ?_ | refine sc (And.intro rfl (Nat.le_of_ble_eq_true rfl)) ?_ | refine sc (And.intro (by simp only [List.length_map, List.length_append, List.length_cons, List.length_nil, List.length_set, List.length_replicate, List.length_singleton] at *; omega) trivial) ?_ | refine sc (by decide) ?_ | refine sc (fun _ => trivial) ?_ | refine And.intro (fun _ => rfl) ?_ | refine sc (fun _ => And.intro (by omega) trivial) ?_))
      rw [lastW_none fun j hj => hno j (by omega) hj] at h
      exact ent_drop (ref_shut h)
  · unfold rdM outside at h
    rw [if_neg hb, if_neg hb] at h
    (repeat (first | refine st ?_ | refine And.intro rfl ?_ | refine sc (by omega) ?_ | refine sc (by simp only [List.length_map, List.length_append, List.length_cons, List.length_nil, List.length_set, List.length_replicate, List.length_singleton] at *; omega) ?_ | refine sc (And.intro (by omega) trivial) ?_ | refine sc (And.intro rfl (Nat.le_of_ble_eq_true rfl)) ?_ | refine sc (And.intro (by simp only [List.length_map, List.length_append, List.length_cons, List.length_nil, List.length_set, List.length_replicate, List.length_singleton] at *; omega) trivial) ?_ | refine sc (by decide) ?_ | refine sc (fun _ => trivial) ?_ | refine And.intro (fun _ => rfl) ?_ | refine sc (fun _ => And.intro (by omega) trivial) ?_))
    exact ent_drop (ref_shut h)
open Classical in
noncomputable def wrR (m : RB) (b : Int) (v : V) : RB := if b ∈ m.set then ⟨m.set, m.writes ++ [⟨b, v⟩]⟩ else m
theorem refWrite_ok {p : Nat} {m : RB} {b : Int} {v : V} {K : Value → W} {F : List HProp} (hf : m.set.length ≤ 16) (hw : m.writes.length ≤ 1000000) (h : Ent (refAt p (wrR m b v) :: F) (K (.int .i64 (outside m.set b)))) :
    Ent (refAt p m :: F) (callC Try.prog 23 [.pointer (pt p), .int .i64 b, cV.val v] K) := by
  refine ent_mono ?_ fun w => nf23_ok
  unfold nf23
  refine st ?_
  intro q
  refine ent_take (A := refAt p m) (ref_open fun s ww => ?_)
  (repeat (first | refine st ?_ | refine And.intro rfl ?_ | refine sc (by omega) ?_ | refine sc (by simp only [List.length_map, List.length_append, List.length_cons, List.length_nil, List.length_set, List.length_replicate, List.length_singleton] at *; omega) ?_ | refine sc (And.intro (by omega) trivial) ?_ | refine sc (And.intro rfl (Nat.le_of_ble_eq_true rfl)) ?_ | refine sc (And.intro (by simp only [List.length_map, List.length_append, List.length_cons, List.length_nil, List.length_set, List.length_replicate, List.length_singleton] at *; omega) trivial) ?_ | refine sc (by decide) ?_ | refine sc (fun _ => trivial) ?_ | refine And.intro (fun _ => rfl) ?_ | refine sc (fun _ => And.intro (by omega) trivial) ?_))
  refine refHas_ok (l := m.set) (by omega) (fun hb => ?_) (fun hb => ?_)
  · unfold wrR outside at h
    rw [if_pos hb, if_pos hb] at h
    (repeat (first | refine st ?_ | refine And.intro rfl ?_ | refine sc (by omega) ?_ | refine sc (by simp only [List.length_map, List.length_append, List.length_cons, List.length_nil, List.length_set, List.length_replicate, List.length_singleton] at *; omega) ?_ | refine sc (And.intro (by omega) trivial) ?_ | refine sc (And.intro rfl (Nat.le_of_ble_eq_true rfl)) ?_ | refine sc (And.intro (by simp only [List.length_map, List.length_append, List.length_cons, List.length_nil, List.length_set, List.length_replicate, List.length_singleton] at *; omega) trivial) ?_ | refine sc (by decide) ?_ | refine sc (fun _ => trivial) ?_ | refine And.intro (fun _ => rfl) ?_ | refine sc (fun _ => And.intro (by omega) trivial) ?_))
    intro s2
    (repeat (first | refine st ?_ | refine And.intro rfl ?_ | refine sc (by omega) ?_ | refine sc (by simp only [List.length_map, List.length_append, List.length_cons, List.length_nil, List.length_set, List.length_replicate, List.length_singleton] at *; omega) ?_ | refine sc (And.intro (by omega) trivial) ?_ | refine sc (And.intro rfl (Nat.le_of_ble_eq_true rfl)) ?_ | refine sc (And.intro (by simp only [List.length_map, List.length_append, List.length_cons, List.length_nil, List.length_set, List.length_replicate, List.length_singleton] at *; omega) trivial) ?_ | refine sc (by decide) ?_ | refine sc (fun _ => trivial) ?_ | refine And.intro (fun _ => rfl) ?_ | refine sc (fun _ => And.intro (by omega) trivial) ?_))
    intro s3
    (repeat (first | refine st ?_ | refine And.intro rfl ?_ | refine sc (by omega) ?_ | refine sc (by simp only [List.length_map, List.length_append, List.length_cons, List.length_nil, List.length_set, List.length_replicate, List.length_singleton] at *; omega) ?_ | refine sc (And.intro (by omega) trivial) ?_ | refine sc (And.intro rfl (Nat.le_of_ble_eq_true rfl)) ?_ | refine sc (And.intro (by simp only [List.length_map, List.length_append, List.length_cons, List.length_nil, List.length_set, List.length_replicate, List.length_singleton] at *; omega) trivial) ?_ | refine sc (by decide) ?_ | refine sc (fun _ => trivial) ?_ | refine And.intro (fun _ => rfl) ?_ | refine sc (fun _ => And.intro (by omega) trivial) ?_))
    exact inc (M := vr p 64 S_wicketref16_Buffer.c ⟨s, s3⟩ :: sl (cInt .i64) 3 s m.set :: sl S_api_Image.c 58 s3 (m.writes ++ [⟨b, v⟩]) :: F) (ref_shut (m := ⟨m.set, m.writes ++ [⟨b, v⟩]⟩) h)
  · unfold wrR outside at h
    rw [if_neg hb, if_neg hb] at h
    (repeat (first | refine st ?_ | refine And.intro rfl ?_ | refine sc (by omega) ?_ | refine sc (by simp only [List.length_map, List.length_append, List.length_cons, List.length_nil, List.length_set, List.length_replicate, List.length_singleton] at *; omega) ?_ | refine sc (And.intro (by omega) trivial) ?_ | refine sc (And.intro rfl (Nat.le_of_ble_eq_true rfl)) ?_ | refine sc (And.intro (by simp only [List.length_map, List.length_append, List.length_cons, List.length_nil, List.length_set, List.length_replicate, List.length_singleton] at *; omega) trivial) ?_ | refine sc (by decide) ?_ | refine sc (fun _ => trivial) ?_ | refine And.intro (fun _ => rfl) ?_ | refine sc (fun _ => And.intro (by omega) trivial) ?_))
    exact ref_shut (inc h)
theorem refImages_ok {p : Nat} {m : RB} {K : Value → W} {F : List HProp} (hf : m.set.length ≤ 16) (hw : m.writes.length ≤ 1000000) (h : ∀ s, Ent (sl S_api_Image.c 58 s (imgs m.set (lastW m.writes)) :: refAt p m :: F) (K (sv s))) :
    Ent (refAt p m :: F) (callC Try.prog 28 [.pointer (pt p)] K) := by
  refine ent_mono ?_ fun w => nf28_ok
  unfold nf28
  refine ent_nil S_api_Image.c 58 ?_
  refine ent_loop (γ := Sl × Nat) (fun t => [sv t.1, .int .i64 t.2]) (fun t => refAt p m :: sl S_api_Image.c 58 t.1 (imgs (m.set.take t.2) (lastW m.writes)) :: F) (fun t => t.2 ≤ m.set.length) (fun t => m.set.length - t.2) (Sl.nil, 0) rfl (by show 0 ≤ _; omega) ⟨fun _ hs => sats_swap hs⟩ ?_
  intro ⟨o, i⟩ hi K1 j hK
  simp only [List.headD_cons, List.tail_cons] at *
  have hle := imgs_le (form := m.set.take i) (o := lastW m.writes)
  rw [List.length_take] at hle
  refine ref_open fun s ww => ?_
  (repeat (first | refine st ?_ | refine And.intro rfl ?_ | refine sc (by omega) ?_ | refine sc (by simp only [List.length_map, List.length_append, List.length_cons, List.length_nil, List.length_set, List.length_replicate, List.length_singleton] at *; omega) ?_ | refine sc (And.intro (by omega) trivial) ?_ | refine sc (And.intro rfl (Nat.le_of_ble_eq_true rfl)) ?_ | refine sc (And.intro (by simp only [List.length_map, List.length_append, List.length_cons, List.length_nil, List.length_set, List.length_replicate, List.length_singleton] at *; omega) trivial) ?_ | refine sc (by decide) ?_ | refine sc (fun _ => trivial) ?_ | refine And.intro (fun _ => rfl) ?_ | refine sc (fun _ => And.intro (by omega) trivial) ?_))
  refine cs (fun h1 => ?_) (fun h1 => ?_)
  · have hi1 : i < m.set.length := by omega
    (repeat (first | refine st ?_ | refine And.intro rfl ?_ | refine sc (by omega) ?_ | refine sc (by simp only [List.length_map, List.length_append, List.length_cons, List.length_nil, List.length_set, List.length_replicate, List.length_singleton] at *; omega) ?_ | refine sc (And.intro (by omega) trivial) ?_ | refine sc (And.intro rfl (Nat.le_of_ble_eq_true rfl)) ?_ | refine sc (And.intro (by simp only [List.length_map, List.length_append, List.length_cons, List.length_nil, List.length_set, List.length_replicate, List.length_singleton] at *; omega) trivial) ?_ | refine sc (by decide) ?_ | refine sc (fun _ => trivial) ?_ | refine And.intro (fun _ => rfl) ?_ | refine sc (fun _ => And.intro (by omega) trivial) ?_))
    have e1 : imgs (m.set.take (i + 1)) (lastW m.writes) = imgs (m.set.take i) (lastW m.writes) ++ ((lastW m.writes (m.set.getD i default)).map fun v => (⟨m.set.getD i default, v⟩ : S_api_Image)).toList := filterMap_one hi1
    refine ref_shut (refRead_ok hf hw ?_)
    have hr : rdM m.set (lastW m.writes (m.set.getD i default)) (m.set.getD i default) = ((lastW m.writes (m.set.getD i default)).getD zV, (lastW m.writes (m.set.getD i default)).isSome) := if_pos (getD_mem hi1)
    rw [hr]
    (repeat (first | refine st ?_ | refine And.intro rfl ?_ | refine sc (by omega) ?_ | refine sc (by simp only [List.length_map, List.length_append, List.length_cons, List.length_nil, List.length_set, List.length_replicate, List.length_singleton] at *; omega) ?_ | refine sc (And.intro (by omega) trivial) ?_ | refine sc (And.intro rfl (Nat.le_of_ble_eq_true rfl)) ?_ | refine sc (And.intro (by simp only [List.length_map, List.length_append, List.length_cons, List.length_nil, List.length_set, List.length_replicate, List.length_singleton] at *; omega) trivial) ?_ | refine sc (by decide) ?_ | refine sc (fun _ => trivial) ?_ | refine And.intro (fun _ => rfl) ?_ | refine sc (fun _ => And.intro (by omega) trivial) ?_))
    intro q
    (repeat (first | refine st ?_ | refine And.intro rfl ?_ | refine sc (by omega) ?_ | refine sc (by simp only [List.length_map, List.length_append, List.length_cons, List.length_nil, List.length_set, List.length_replicate, List.length_singleton] at *; omega) ?_ | refine sc (And.intro (by omega) trivial) ?_ | refine sc (And.intro rfl (Nat.le_of_ble_eq_true rfl)) ?_ | refine sc (And.intro (by simp only [List.length_map, List.length_append, List.length_cons, List.length_nil, List.length_set, List.length_replicate, List.length_singleton] at *; omega) trivial) ?_ | refine sc (by decide) ?_ | refine sc (fun _ => trivial) ?_ | refine And.intro (fun _ => rfl) ?_ | refine sc (fun _ => And.intro (by omega) trivial) ?_))
    cases hv : lastW m.writes (m.set.getD i default) with
    | none =>
      rw [hv] at e1
      simp only [Option.isSome_none, Option.getD_none, Option.map_none, Option.toList_none, List.append_nil] at *
      (repeat (first | refine st ?_ | refine And.intro rfl ?_ | refine sc (by omega) ?_ | refine sc (by simp only [List.length_map, List.length_append, List.length_cons, List.length_nil, List.length_set, List.length_replicate, List.length_singleton] at *; omega) ?_ | refine sc (And.intro (by omega) trivial) ?_ | refine sc (And.intro rfl (Nat.le_of_ble_eq_true rfl)) ?_ | refine sc (And.intro (by simp only [List.length_map, List.length_append, List.length_cons, List.length_nil, List.length_set, List.length_replicate, List.length_singleton] at *; omega) trivial) ?_ | refine sc (by decide) ?_ | refine sc (fun _ => trivial) ?_ | refine And.intro (fun _ => rfl) ?_ | refine sc (fun _ => And.intro (by omega) trivial) ?_))
      unfold nf28_1
      (repeat (first | refine st ?_ | refine And.intro rfl ?_ | refine sc (by omega) ?_ | refine sc (by simp only [List.length_map, List.length_append, List.length_cons, List.length_nil, List.length_set, List.length_replicate, List.length_singleton] at *; omega) ?_ | refine sc (And.intro (by omega) trivial) ?_ | refine sc (And.intro rfl (Nat.le_of_ble_eq_true rfl)) ?_ | refine sc (And.intro (by simp only [List.length_map, List.length_append, List.length_cons, List.length_nil, List.length_set, List.length_replicate, List.length_singleton] at *; omega) trivial) ?_ | refine sc (by decide) ?_ | refine sc (fun _ => trivial) ?_ | refine And.intro (fun _ => rfl) ?_ | refine sc (fun _ => And.intro (by omega) trivial) ?_))
      have h9 := hK (o, i + 1) (by show i + 1 ≤ _; omega) (by show _ - (i + 1) < _; omega)
      simp only [e1] at h9
      exact inc h9
    | some v =>
      rw [hv] at e1
      simp only [Option.isSome_some, Option.getD_some, Option.map_some, Option.toList_some] at *
      refine ent_take (A := refAt p m) (ref_open fun s ww => ?_)
      (repeat (first | refine st ?_ | refine And.intro rfl ?_ | refine sc (by omega) ?_ | refine sc (by simp only [List.length_map, List.length_append, List.length_cons, List.length_nil, List.length_set, List.length_replicate, List.length_singleton] at *; omega) ?_ | refine sc (And.intro (by omega) trivial) ?_ | refine sc (And.intro rfl (Nat.le_of_ble_eq_true rfl)) ?_ | refine sc (And.intro (by simp only [List.length_map, List.length_append, List.length_cons, List.length_nil, List.length_set, List.length_replicate, List.length_singleton] at *; omega) trivial) ?_ | refine sc (by decide) ?_ | refine sc (fun _ => trivial) ?_ | refine And.intro (fun _ => rfl) ?_ | refine sc (fun _ => And.intro (by omega) trivial) ?_))
      intro s2
      (repeat (first | refine st ?_ | refine And.intro rfl ?_ | refine sc (by omega) ?_ | refine sc (by simp only [List.length_map, List.length_append, List.length_cons, List.length_nil, List.length_set, List.length_replicate, List.length_singleton] at *; omega) ?_ | refine sc (And.intro (by omega) trivial) ?_ | refine sc (And.intro rfl (Nat.le_of_ble_eq_true rfl)) ?_ | refine sc (And.intro (by simp only [List.length_map, List.length_append, List.length_cons, List.length_nil, List.length_set, List.length_replicate, List.length_singleton] at *; omega) trivial) ?_ | refine sc (by decide) ?_ | refine sc (fun _ => trivial) ?_ | refine And.intro (fun _ => rfl) ?_ | refine sc (fun _ => And.intro (by omega) trivial) ?_))
      intro s3
      unfold nf28_1
      (repeat (first | refine st ?_ | refine And.intro rfl ?_ | refine sc (by omega) ?_ | refine sc (by simp only [List.length_map, List.length_append, List.length_cons, List.length_nil, List.length_set, List.length_replicate, List.length_singleton] at *; omega) ?_ | refine sc (And.intro (by omega) trivial) ?_ | refine sc (And.intro rfl (Nat.le_of_ble_eq_true rfl)) ?_ | refine sc (And.intro (by simp only [List.length_map, List.length_append, List.length_cons, List.length_nil, List.length_set, List.length_replicate, List.length_singleton] at *; omega) trivial) ?_ | refine sc (by decide) ?_ | refine sc (fun _ => trivial) ?_ | refine And.intro (fun _ => rfl) ?_ | refine sc (fun _ => And.intro (by omega) trivial) ?_))
      have h9 := hK (s3, i + 1) (by show i + 1 ≤ _; omega) (by show _ - (i + 1) < _; omega)
      simp only [e1] at h9
      exact inc (M := vr p 64 S_wicketref16_Buffer.c ⟨s, ww⟩ :: sl (cInt .i64) 3 s m.set :: sl S_api_Image.c 58 ww m.writes :: sl S_api_Image.c 58 s3 (imgs (m.set.take i) (lastW m.writes) ++ [⟨m.set.getD i default, v⟩]) :: F) (ref_shut h9)
  · have hil : i = m.set.length := by omega
    subst hil
    rw [List.take_length]
    (repeat (first | refine st ?_ | refine And.intro rfl ?_ | refine sc (by omega) ?_ | refine sc (by simp only [List.length_map, List.length_append, List.length_cons, List.length_nil, List.length_set, List.length_replicate, List.length_singleton] at *; omega) ?_ | refine sc (And.intro (by omega) trivial) ?_ | refine sc (And.intro rfl (Nat.le_of_ble_eq_true rfl)) ?_ | refine sc (And.intro (by simp only [List.length_map, List.length_append, List.length_cons, List.length_nil, List.length_set, List.length_replicate, List.length_singleton] at *; omega) trivial) ?_ | refine sc (by decide) ?_ | refine sc (fun _ => trivial) ?_ | refine And.intro (fun _ => rfl) ?_ | refine sc (fun _ => And.intro (by omega) trivial) ?_))
    exact ref_shut (ent_swap (h o))
theorem refC_close {q : Nat} {s2 w2 : Sl} {L M1 M2 : List HProp} {a : List Int} {b : List S_api_Image} {La : List Int → List HProp} {Lb : List S_api_Image → List HProp} {φ : W} [p1 : PickS s2 L 3 (cInt .i64) a La M1] [p2 : PickS w2 M1 58 S_api_Image.c b Lb M2]
    (h : ∀ s1 w1, Ent (vr q 64 S_wicketref16_Buffer.c ⟨s1, w1⟩ :: sl (cInt .i64) 3 s1 a :: sl S_api_Image.c 58 w1 b :: M2) φ) : Ent (vr q 64 S_wicketref16_Buffer.c ⟨s2, w2⟩ :: L) φ :=
  ent_pre (fun _ hs => sats_tail (fun _ hs => sats_tail p2.out.1 (p1.out.1 _ hs)) hs) (h s2 w2)
theorem refCopy_ok {p : Nat} {m : RB} {K : Value → W} {F : List HProp} (hf : m.set.length ≤ 16) (hw : m.writes.length ≤ 1000000) (h : ∀ q, Ent (refAt q m :: refAt p m :: F) (K (.pointer (pt q)))) : Ent (refAt p m :: F) (callC Try.prog 26 [.pointer (pt p)] K) := by
  refine ent_mono ?_ fun w => nf26_ok
  unfold nf26
  refine ref_open fun s ww => ?_
  have fin : ∀ s2 w2 q, Ent (vr p 64 S_wicketref16_Buffer.c ⟨s, ww⟩ :: sl (cInt .i64) 3 s m.set :: sl S_api_Image.c 58 ww m.writes :: vr q 64 S_wicketref16_Buffer.c ⟨s2, w2⟩ :: sl (cInt .i64) 3 s2 m.set :: sl S_api_Image.c 58 w2 m.writes :: F) (K (.pointer (pt q))) := fun s2 w2 q =>
    ref_shut (inc (M := vr q 64 S_wicketref16_Buffer.c ⟨s2, w2⟩ :: sl (cInt .i64) 3 s2 m.set :: sl S_api_Image.c 58 w2 m.writes :: refAt p m :: F) (ref_shut (h q)))
  (repeat' (first | refine st ?_ | refine And.intro rfl ?_ | refine sc (by omega) ?_ | refine sc (by simp only [List.length_map, List.length_append, List.length_cons, List.length_nil, List.length_set, List.length_replicate, List.length_singleton] at *; omega) ?_ | refine sc (And.intro (by omega) trivial) ?_ | refine sc (And.intro rfl (Nat.le_of_ble_eq_true rfl)) ?_ | refine sc (And.intro (by simp only [List.length_map, List.length_append, List.length_cons, List.length_nil, List.length_set, List.length_replicate, List.length_singleton] at *; omega) trivial) ?_ | refine sc (by decide) ?_ | refine sc (fun _ => trivial) ?_ | refine And.intro (fun _ => rfl) ?_ | refine sc (fun _ => And.intro (by omega) trivial) ?_ | refine And.intro ?_ ?_ | refine fun (_ : Sl) => ?_ | refine fun (_ : Nat) => ?_))
  all_goals (refine refC_close fun s1 w1 => ?_; rw [List.nil_append, List.nil_append]; exact inc (fin s1 w1 _))
end Go.Proofs.Ytlohgchklicmhaa
