/- apart: what was handed out is as it was told; marked and grown, it holds its marks. -/
import Derived.Test.YtmnokpffpadgoaaDoorCa
namespace Go.Proofs.YtmnokpffpadgoaaDoor
set_option linter.unusedSimpArgs false
set_option linter.unusedVariables false
open Go.Dn
set_option linter.unusedSectionVars false
set_option synthInstance.maxSize 10000
set_option synthInstance.maxHeartbeats 400000
set_option maxHeartbeats 2000000
variable [sd : Side]
abbrev mkv (i : Int) : E := ⟨-100 - i, ⟨List.replicate 32 0, List.length_replicate⟩, 0⟩
def mlAt (x : Sl × List E) : HProp := sl S_cache_Entry.c 57 x.1 x.2
instance : Inhabited (Sl × List E) := ⟨(Sl.nil, [])⟩
structure GR where
  o : Sl
  n : Sl
  k : Nat
  v : E
instance : Inhabited GR := ⟨⟨Sl.nil, Sl.nil, 0, default⟩⟩
def grAt (x : GR) : HProp := grw S_cache_Entry.c 57 x.o x.n (List.replicate x.k x.v) (List.replicate 16 x.v)
theorem take_set_rep {α : Type} {l : List α} {k : Nat} {x : α} (h : l.take k = List.replicate k x) (hk : k < l.length) : (l.set k x).take (k + 1) = List.replicate (k + 1) x := by
  rw [List.take_succ_eq_append_getElem (by simpa using hk), List.take_set, List.set_eq_of_length_le (by simp; omega), h, List.replicate_succ']
  simp
theorem mark1_ok {p i : Nat} {x : S_wicketlaw17_world} {s : Sl} {ls : List Sl} {l : List E} {K : List Value → W} {F : List HProp} (hi : i < ls.length) (hi2 : i ≤ 1000) (hs : ls.getD i default = s) (hl : l.length ≤ 64)
    (h : Ent (sl S_cache_Entry.c 57 s (List.replicate l.length (mkv i)) :: vr p 42 S_wicketlaw17_world.c x :: sl cSl 60 x.lists ls :: F) (K [.int .i64 (i + 1)])) :
    Ent (sl S_cache_Entry.c 57 s l :: vr p 42 S_wicketlaw17_world.c x :: sl cSl 60 x.lists ls :: F) (nf11_1 K (.pointer (pt p)) (.int .i64 i)) := by
  unfold nf11_1
  refine ent_loop1 (γ := Nat × List E) (fun t => [.int .i64 t.1]) (fun t => sl S_cache_Entry.c 57 s t.2) (fun t => t.1 ≤ l.length ∧ t.2.length = l.length ∧ t.2.take t.1 = List.replicate t.1 (mkv i)) (fun t => l.length - t.1) (0, l) rfl ⟨by simp, rfl, by simp⟩ ?_
  intro ⟨k, t⟩ ⟨hk, ht, hr⟩ K1 j hK
  simp only [List.headD_cons] at *
  (repeat (first | refine st ?_ | refine And.intro rfl ?_ | refine sc (by omega) ?_ | refine sc (by simp only [List.length_map, List.length_append, List.length_cons, List.length_nil, List.length_set, List.length_replicate, List.length_singleton] at *; omega) ?_ | refine sc (And.intro (by omega) trivial) ?_ | refine sc (And.intro rfl (Nat.le_of_ble_eq_true rfl)) ?_ | refine sc (And.intro (by simp only [List.length_map, List.length_append, List.length_cons, List.length_nil, List.length_set, List.length_replicate, List.length_singleton] at *; omega) trivial) ?_ | refine sc (fun _ => trivial) ?_ | refine And.intro (fun _ => rfl) ?_ | refine sc (fun _ => And.intro (by omega) trivial) ?_))
  rw [hs]
  (repeat (first | refine st ?_ | refine And.intro rfl ?_ | refine sc (by omega) ?_ | refine sc (by simp only [List.length_map, List.length_append, List.length_cons, List.length_nil, List.length_set, List.length_replicate, List.length_singleton] at *; omega) ?_ | refine sc (And.intro (by omega) trivial) ?_ | refine sc (And.intro rfl (Nat.le_of_ble_eq_true rfl)) ?_ | refine sc (And.intro (by simp only [List.length_map, List.length_append, List.length_cons, List.length_nil, List.length_set, List.length_replicate, List.length_singleton] at *; omega) trivial) ?_ | refine sc (fun _ => trivial) ?_ | refine And.intro (fun _ => rfl) ?_ | refine sc (fun _ => And.intro (by omega) trivial) ?_))
  refine cs (fun h1 => ?_) (fun h1 => ?_)
  · (repeat (first | refine st ?_ | refine And.intro rfl ?_ | refine sc (by omega) ?_ | refine sc (by simp only [List.length_map, List.length_append, List.length_cons, List.length_nil, List.length_set, List.length_replicate, List.length_singleton] at *; omega) ?_ | refine sc (And.intro (by omega) trivial) ?_ | refine sc (And.intro rfl (Nat.le_of_ble_eq_true rfl)) ?_ | refine sc (And.intro (by simp only [List.length_map, List.length_append, List.length_cons, List.length_nil, List.length_set, List.length_replicate, List.length_singleton] at *; omega) trivial) ?_ | refine sc (fun _ => trivial) ?_ | refine And.intro (fun _ => rfl) ?_ | refine sc (fun _ => And.intro (by omega) trivial) ?_))
    rw [hs]
    (repeat (first | refine st ?_ | refine And.intro rfl ?_ | refine sc (by omega) ?_ | refine sc (by simp only [List.length_map, List.length_append, List.length_cons, List.length_nil, List.length_set, List.length_replicate, List.length_singleton] at *; omega) ?_ | refine sc (And.intro (by omega) trivial) ?_ | refine sc (And.intro rfl (Nat.le_of_ble_eq_true rfl)) ?_ | refine sc (And.intro (by simp only [List.length_map, List.length_append, List.length_cons, List.length_nil, List.length_set, List.length_replicate, List.length_singleton] at *; omega) trivial) ?_ | refine sc (fun _ => trivial) ?_ | refine And.intro (fun _ => rfl) ?_ | refine sc (fun _ => And.intro (by omega) trivial) ?_))
    have h9 := hK (k + 1, t.set k (mkv i)) ⟨by show k + 1 ≤ _; omega, by rw [List.length_set]; exact ht, take_set_rep hr (by omega)⟩ (by show _ - (k + 1) < _; omega)
    exact h9
  · (repeat (first | refine st ?_ | refine And.intro rfl ?_ | refine sc (by omega) ?_ | refine sc (by simp only [List.length_map, List.length_append, List.length_cons, List.length_nil, List.length_set, List.length_replicate, List.length_singleton] at *; omega) ?_ | refine sc (And.intro (by omega) trivial) ?_ | refine sc (And.intro rfl (Nat.le_of_ble_eq_true rfl)) ?_ | refine sc (And.intro (by simp only [List.length_map, List.length_append, List.length_cons, List.length_nil, List.length_set, List.length_replicate, List.length_singleton] at *; omega) trivial) ?_ | refine sc (fun _ => trivial) ?_ | refine And.intro (fun _ => rfl) ?_ | refine sc (fun _ => And.intro (by omega) trivial) ?_))
    have hkl : k = l.length := by omega
    subst hkl
    rw [← ht, List.take_length, ht] at hr
    rw [hr]
    exact h
theorem grow1_ok {i : Nat} {s : Sl} {n : Nat} {x50 : Value} {xs : List Sl} {K : List Value → W} {lg : Sl} {F : List HProp} (hn : n ≤ 64) (hi : i ≤ 1000) (hx : x50 = sv lg) (hxl : xs.length ≤ 1000)
    (h : ∀ s' lg', Ent (sl cSl 60 lg' (xs ++ [s']) :: grw S_cache_Entry.c 57 s s' (List.replicate n (mkv i)) (List.replicate 16 (mkv i)) :: F) (K [sv lg', .int .i64 (i + 1)])) :
    Ent (sl S_cache_Entry.c 57 s (List.replicate n (mkv i)) :: sl cSl 60 lg xs :: F) (nf11_2 K (sv s) x50 (.int .i64 i)) := by
  subst hx
  unfold nf11_2
  refine grw_mk ?_
  refine ent_loop1 (γ := Sl × Nat) (fun t => [sv t.1, .int .i64 t.2]) (fun t => grw S_cache_Entry.c 57 s t.1 (List.replicate n (mkv i)) (List.replicate t.2 (mkv i))) (fun t => t.2 ≤ 16) (fun t => 16 - t.2) (s, 0) rfl (by show 0 ≤ 16; omega) ?_
  intro ⟨s', k⟩ hk K1 j hK
  simp only [List.headD_cons, List.tail_cons] at *
  refine cs (fun h1 => ?_) (fun h1 => ?_)
  · (repeat (first | refine st ?_ | refine And.intro rfl ?_ | refine sc (by omega) ?_ | refine sc (by simp only [List.length_map, List.length_append, List.length_cons, List.length_nil, List.length_set, List.length_replicate, List.length_singleton] at *; omega) ?_ | refine sc (And.intro (by omega) trivial) ?_ | refine sc (And.intro rfl (Nat.le_of_ble_eq_true rfl)) ?_ | refine sc (And.intro (by simp only [List.length_map, List.length_append, List.length_cons, List.length_nil, List.length_set, List.length_replicate, List.length_singleton] at *; omega) trivial) ?_ | refine sc (fun _ => trivial) ?_ | refine And.intro (fun _ => rfl) ?_ | refine sc (fun _ => And.intro (by omega) trivial) ?_))
    intro s2
    refine ent_take (A := grw S_cache_Entry.c 57 s s' (List.replicate n (mkv i)) (List.replicate k (mkv i))) (grw_append (zs := [mkv i]) (by simp only [List.length_replicate, List.length_singleton]; omega) fun s3 => ?_)
    (repeat (first | refine st ?_ | refine And.intro rfl ?_ | refine sc (by omega) ?_ | refine sc (by simp only [List.length_map, List.length_append, List.length_cons, List.length_nil, List.length_set, List.length_replicate, List.length_singleton] at *; omega) ?_ | refine sc (And.intro (by omega) trivial) ?_ | refine sc (And.intro rfl (Nat.le_of_ble_eq_true rfl)) ?_ | refine sc (And.intro (by simp only [List.length_map, List.length_append, List.length_cons, List.length_nil, List.length_set, List.length_replicate, List.length_singleton] at *; omega) trivial) ?_ | refine sc (fun _ => trivial) ?_ | refine And.intro (fun _ => rfl) ?_ | refine sc (fun _ => And.intro (by omega) trivial) ?_))
    have h9 := hK (s3, k + 1) (by show k + 1 ≤ 16; omega) (by show 16 - (k + 1) < 16 - k; omega)
    simp only [List.replicate_succ'] at h9
    exact inc h9
  · have hk16 : k = 16 := by omega
    subst hk16
    (repeat (first | refine st ?_ | refine And.intro rfl ?_ | refine sc (by omega) ?_ | refine sc (by simp only [List.length_map, List.length_append, List.length_cons, List.length_nil, List.length_set, List.length_replicate, List.length_singleton] at *; omega) ?_ | refine sc (And.intro (by omega) trivial) ?_ | refine sc (And.intro rfl (Nat.le_of_ble_eq_true rfl)) ?_ | refine sc (And.intro (by simp only [List.length_map, List.length_append, List.length_cons, List.length_nil, List.length_set, List.length_replicate, List.length_singleton] at *; omega) trivial) ?_ | refine sc (fun _ => trivial) ?_ | refine And.intro (fun _ => rfl) ?_ | refine sc (fun _ => And.intro (by omega) trivial) ?_))
    intro s2
    (repeat (first | refine st ?_ | refine And.intro rfl ?_ | refine sc (by omega) ?_ | refine sc (by simp only [List.length_map, List.length_append, List.length_cons, List.length_nil, List.length_set, List.length_replicate, List.length_singleton] at *; omega) ?_ | refine sc (And.intro (by omega) trivial) ?_ | refine sc (And.intro rfl (Nat.le_of_ble_eq_true rfl)) ?_ | refine sc (And.intro (by simp only [List.length_map, List.length_append, List.length_cons, List.length_nil, List.length_set, List.length_replicate, List.length_singleton] at *; omega) trivial) ?_ | refine sc (fun _ => trivial) ?_ | refine And.intro (fun _ => rfl) ?_ | refine sc (fun _ => And.intro (by omega) trivial) ?_))
    intro s3
    (repeat (first | refine st ?_ | refine And.intro rfl ?_ | refine sc (by omega) ?_ | refine sc (by simp only [List.length_map, List.length_append, List.length_cons, List.length_nil, List.length_set, List.length_replicate, List.length_singleton] at *; omega) ?_ | refine sc (And.intro (by omega) trivial) ?_ | refine sc (And.intro rfl (Nat.le_of_ble_eq_true rfl)) ?_ | refine sc (And.intro (by simp only [List.length_map, List.length_append, List.length_cons, List.length_nil, List.length_set, List.length_replicate, List.length_singleton] at *; omega) trivial) ?_ | refine sc (fun _ => trivial) ?_ | refine And.intro (fun _ => rfl) ?_ | refine sc (fun _ => And.intro (by omega) trivial) ?_))
    exact inc (h s' s3)
theorem check1_ok {p i : Nat} {x : S_wicketlaw17_world} {ls ns : List Sl} {lg : Sl} {g : GR} {K : List Value → W} {R : Value → W} {F : List HProp} (hi : i < ls.length) (hi1 : i < ns.length) (hi2 : i ≤ 1000) (ho : ls.getD i default = g.o) (hnn : ns.getD i default = g.n) (hv : g.v = mkv i) (hk : g.k ≤ 64)
    (h : Ent (grAt g :: vr p 42 S_wicketlaw17_world.c x :: sl cSl 60 x.lists ls :: sl cSl 60 lg ns :: F) (K [.int .i64 (i + 1)])) :
    Ent (grAt g :: vr p 42 S_wicketlaw17_world.c x :: sl cSl 60 x.lists ls :: sl cSl 60 lg ns :: F) (nf11_3 K R (.pointer (pt p)) (sv lg) (.int .i64 i)) := by
  obtain ⟨o, n, k, v⟩ := g
  simp only at *
  subst hv
  change Ent (grw S_cache_Entry.c 57 o n (List.replicate k (mkv i)) (List.replicate 16 (mkv i)) :: _) _ at h
  change Ent (grw S_cache_Entry.c 57 o n (List.replicate k (mkv i)) (List.replicate 16 (mkv i)) :: _) _
  unfold nf11_3
  refine ent_loop0 (γ := Nat) (fun t => [.int .i64 t]) (fun t => t ≤ k + 16) (fun t => k + 16 - t) 0 rfl (by omega) ?_
  intro t ht K1 j hK
  simp only [List.headD_cons] at *
  (repeat (first | refine st ?_ | refine And.intro rfl ?_ | refine sc (by omega) ?_ | refine sc (by simp only [List.length_map, List.length_append, List.length_cons, List.length_nil, List.length_set, List.length_replicate, List.length_singleton] at *; omega) ?_ | refine sc (And.intro (by omega) trivial) ?_ | refine sc (And.intro rfl (Nat.le_of_ble_eq_true rfl)) ?_ | refine sc (And.intro (by simp only [List.length_map, List.length_append, List.length_cons, List.length_nil, List.length_set, List.length_replicate, List.length_singleton] at *; omega) trivial) ?_ | refine sc (fun _ => trivial) ?_ | refine And.intro (fun _ => rfl) ?_ | refine sc (fun _ => And.intro (by omega) trivial) ?_))
  rw [hnn]
  (repeat (first | refine st ?_ | refine And.intro rfl ?_ | refine sc (by omega) ?_ | refine sc (by simp only [List.length_map, List.length_append, List.length_cons, List.length_nil, List.length_set, List.length_replicate, List.length_singleton] at *; omega) ?_ | refine sc (And.intro (by omega) trivial) ?_ | refine sc (And.intro rfl (Nat.le_of_ble_eq_true rfl)) ?_ | refine sc (And.intro (by simp only [List.length_map, List.length_append, List.length_cons, List.length_nil, List.length_set, List.length_replicate, List.length_singleton] at *; omega) trivial) ?_ | refine sc (fun _ => trivial) ?_ | refine And.intro (fun _ => rfl) ?_ | refine sc (fun _ => And.intro (by omega) trivial) ?_))
  refine cs (fun h1 => ?_) (fun h1 => ?_)
  · have e1 : (List.replicate k (mkv i) ++ List.replicate 16 (mkv i)).getD t default = mkv i := by
      rw [List.replicate_append_replicate]
      simp only [List.length_append, List.length_replicate] at h1
      simp only [List.getD_eq_getElem?_getD, List.getElem?_replicate]
      rw [if_pos (by omega)]
      rfl
    (repeat (first | refine st ?_ | refine And.intro rfl ?_ | refine sc (by omega) ?_ | refine sc (by simp only [List.length_map, List.length_append, List.length_cons, List.length_nil, List.length_set, List.length_replicate, List.length_singleton] at *; omega) ?_ | refine sc (And.intro (by omega) trivial) ?_ | refine sc (And.intro rfl (Nat.le_of_ble_eq_true rfl)) ?_ | refine sc (And.intro (by simp only [List.length_map, List.length_append, List.length_cons, List.length_nil, List.length_set, List.length_replicate, List.length_singleton] at *; omega) trivial) ?_ | refine sc (fun _ => trivial) ?_ | refine And.intro (fun _ => rfl) ?_ | refine sc (fun _ => And.intro (by omega) trivial) ?_))
    rw [hnn]
    (repeat (first | refine st ?_ | refine And.intro rfl ?_ | refine sc (by omega) ?_ | refine sc (by simp only [List.length_map, List.length_append, List.length_cons, List.length_nil, List.length_set, List.length_replicate, List.length_singleton] at *; omega) ?_ | refine sc (And.intro (by omega) trivial) ?_ | refine sc (And.intro rfl (Nat.le_of_ble_eq_true rfl)) ?_ | refine sc (And.intro (by simp only [List.length_map, List.length_append, List.length_cons, List.length_nil, List.length_set, List.length_replicate, List.length_singleton] at *; omega) trivial) ?_ | refine sc (fun _ => trivial) ?_ | refine And.intro (fun _ => rfl) ?_ | refine sc (fun _ => And.intro (by omega) trivial) ?_))
    rw [e1]
    (repeat (first | refine st ?_ | refine And.intro rfl ?_ | refine sc (by omega) ?_ | refine sc (by simp only [List.length_map, List.length_append, List.length_cons, List.length_nil, List.length_set, List.length_replicate, List.length_singleton] at *; omega) ?_ | refine sc (And.intro (by omega) trivial) ?_ | refine sc (And.intro rfl (Nat.le_of_ble_eq_true rfl)) ?_ | refine sc (And.intro (by simp only [List.length_map, List.length_append, List.length_cons, List.length_nil, List.length_set, List.length_replicate, List.length_singleton] at *; omega) trivial) ?_ | refine sc (fun _ => trivial) ?_ | refine And.intro (fun _ => rfl) ?_ | refine sc (fun _ => And.intro (by omega) trivial) ?_))
    refine ct rfl ?_
    (repeat (first | refine st ?_ | refine And.intro rfl ?_ | refine sc (by omega) ?_ | refine sc (by simp only [List.length_map, List.length_append, List.length_cons, List.length_nil, List.length_set, List.length_replicate, List.length_singleton] at *; omega) ?_ | refine sc (And.intro (by omega) trivial) ?_ | refine sc (And.intro rfl (Nat.le_of_ble_eq_true rfl)) ?_ | refine sc (And.intro (by simp only [List.length_map, List.length_append, List.length_cons, List.length_nil, List.length_set, List.length_replicate, List.length_singleton] at *; omega) trivial) ?_ | refine sc (fun _ => trivial) ?_ | refine And.intro (fun _ => rfl) ?_ | refine sc (fun _ => And.intro (by omega) trivial) ?_))
    rw [ho]
    (repeat (first | refine st ?_ | refine And.intro rfl ?_ | refine sc (by omega) ?_ | refine sc (by simp only [List.length_map, List.length_append, List.length_cons, List.length_nil, List.length_set, List.length_replicate, List.length_singleton] at *; omega) ?_ | refine sc (And.intro (by omega) trivial) ?_ | refine sc (And.intro rfl (Nat.le_of_ble_eq_true rfl)) ?_ | refine sc (And.intro (by simp only [List.length_map, List.length_append, List.length_cons, List.length_nil, List.length_set, List.length_replicate, List.length_singleton] at *; omega) trivial) ?_ | refine sc (fun _ => trivial) ?_ | refine And.intro (fun _ => rfl) ?_ | refine sc (fun _ => And.intro (by omega) trivial) ?_))
    refine cs (fun h2 => ?_) (fun h2 => ?_)
    · have e2 : (List.replicate k (mkv i)).getD t default = mkv i := by
        simp only [List.length_replicate] at h2
        simp only [List.getD_eq_getElem?_getD, List.getElem?_replicate]
        rw [if_pos (by omega)]
        rfl
      (repeat (first | refine st ?_ | refine And.intro rfl ?_ | refine sc (by omega) ?_ | refine sc (by simp only [List.length_map, List.length_append, List.length_cons, List.length_nil, List.length_set, List.length_replicate, List.length_singleton] at *; omega) ?_ | refine sc (And.intro (by omega) trivial) ?_ | refine sc (And.intro rfl (Nat.le_of_ble_eq_true rfl)) ?_ | refine sc (And.intro (by simp only [List.length_map, List.length_append, List.length_cons, List.length_nil, List.length_set, List.length_replicate, List.length_singleton] at *; omega) trivial) ?_ | refine sc (fun _ => trivial) ?_ | refine And.intro (fun _ => rfl) ?_ | refine sc (fun _ => And.intro (by omega) trivial) ?_))
      rw [ho]
      (repeat (first | refine st ?_ | refine And.intro rfl ?_ | refine sc (by omega) ?_ | refine sc (by simp only [List.length_map, List.length_append, List.length_cons, List.length_nil, List.length_set, List.length_replicate, List.length_singleton] at *; omega) ?_ | refine sc (And.intro (by omega) trivial) ?_ | refine sc (And.intro rfl (Nat.le_of_ble_eq_true rfl)) ?_ | refine sc (And.intro (by simp only [List.length_map, List.length_append, List.length_cons, List.length_nil, List.length_set, List.length_replicate, List.length_singleton] at *; omega) trivial) ?_ | refine sc (fun _ => trivial) ?_ | refine And.intro (fun _ => rfl) ?_ | refine sc (fun _ => And.intro (by omega) trivial) ?_))
      rw [e2]
      refine ct rfl ?_
      (repeat (first | refine st ?_ | refine And.intro rfl ?_ | refine sc (by omega) ?_ | refine sc (by simp only [List.length_map, List.length_append, List.length_cons, List.length_nil, List.length_set, List.length_replicate, List.length_singleton] at *; omega) ?_ | refine sc (And.intro (by omega) trivial) ?_ | refine sc (And.intro rfl (Nat.le_of_ble_eq_true rfl)) ?_ | refine sc (And.intro (by simp only [List.length_map, List.length_append, List.length_cons, List.length_nil, List.length_set, List.length_replicate, List.length_singleton] at *; omega) trivial) ?_ | refine sc (fun _ => trivial) ?_ | refine And.intro (fun _ => rfl) ?_ | refine sc (fun _ => And.intro (by omega) trivial) ?_))
      simp only [List.length_append, List.length_replicate] at h1
      exact hK (t + 1) (by omega) (by omega)
    · (repeat (first | refine st ?_ | refine And.intro rfl ?_ | refine sc (by omega) ?_ | refine sc (by simp only [List.length_map, List.length_append, List.length_cons, List.length_nil, List.length_set, List.length_replicate, List.length_singleton] at *; omega) ?_ | refine sc (And.intro (by omega) trivial) ?_ | refine sc (And.intro rfl (Nat.le_of_ble_eq_true rfl)) ?_ | refine sc (And.intro (by simp only [List.length_map, List.length_append, List.length_cons, List.length_nil, List.length_set, List.length_replicate, List.length_singleton] at *; omega) trivial) ?_ | refine sc (fun _ => trivial) ?_ | refine And.intro (fun _ => rfl) ?_ | refine sc (fun _ => And.intro (by omega) trivial) ?_))
      simp only [List.length_append, List.length_replicate] at h1
      exact hK (t + 1) (by omega) (by omega)
  · (repeat (first | refine st ?_ | refine And.intro rfl ?_ | refine sc (by omega) ?_ | refine sc (by simp only [List.length_map, List.length_append, List.length_cons, List.length_nil, List.length_set, List.length_replicate, List.length_singleton] at *; omega) ?_ | refine sc (And.intro (by omega) trivial) ?_ | refine sc (And.intro rfl (Nat.le_of_ble_eq_true rfl)) ?_ | refine sc (And.intro (by simp only [List.length_map, List.length_append, List.length_cons, List.length_nil, List.length_set, List.length_replicate, List.length_singleton] at *; omega) trivial) ?_ | refine sc (fun _ => trivial) ?_ | refine And.intro (fun _ => rfl) ?_ | refine sc (fun _ => And.intro (by omega) trivial) ?_))
    exact h
theorem drop_getD {α : Type} [Inhabited α] {l : List α} {i : Nat} (h : i < l.length) : l.drop i = l.getD i default :: l.drop (i + 1) := by
  rw [List.drop_eq_getElem_cons h]; simp [h]
theorem map_getD_eq {α β : Type} [Inhabited α] [Inhabited β] {f : α → β} {l : List α} {ls : List β} {i : Nat} (h : l.map f = ls) (hi : i < l.length) : ls.getD i default = f (l.getD i default) := by
  rw [← h, getD_map' hi]
theorem look_ok {p : Nat} {x : S_wicketlaw17_world} {ls : List Sl} {gs : List GR} {lg : Sl} {R : Value → W} {F : List HProp} (hls : gs.map (·.o) = ls) (hv : ∀ j, j < gs.length → (gs.getD j default).v = mkv j ∧ (gs.getD j default).k ≤ 64) (hN : gs.length ≤ 1000)
    (h : Ent F (R (.bool true))) : Ent (bg grAt gs :: vr p 42 S_wicketlaw17_world.c x :: sl cSl 60 x.lists ls :: sl cSl 60 lg (gs.map (·.n)) :: F) (nf11_4 R (.pointer (pt p)) (sv lg)) := by
  unfold nf11_4
  have hll : ls.length = gs.length := by rw [← hls, List.length_map]
  refine ent_loop0 (γ := Nat) (fun t => [.int .i64 t]) (fun t => t ≤ gs.length) (fun t => gs.length - t) 0 rfl (by omega) ?_
  intro i hi K1 j hK
  simp only [List.headD_cons] at *
  (repeat (first | refine st ?_ | refine And.intro rfl ?_ | refine sc (by omega) ?_ | refine sc (by simp only [List.length_map, List.length_append, List.length_cons, List.length_nil, List.length_set, List.length_replicate, List.length_singleton] at *; omega) ?_ | refine sc (And.intro (by omega) trivial) ?_ | refine sc (And.intro rfl (Nat.le_of_ble_eq_true rfl)) ?_ | refine sc (And.intro (by simp only [List.length_map, List.length_append, List.length_cons, List.length_nil, List.length_set, List.length_replicate, List.length_singleton] at *; omega) trivial) ?_ | refine sc (fun _ => trivial) ?_ | refine And.intro (fun _ => rfl) ?_ | refine sc (fun _ => And.intro (by omega) trivial) ?_))
  refine cs (fun h1 => ?_) (fun h1 => ?_)
  · have hi1 : i < gs.length := by omega
    obtain ⟨h2, h3⟩ := hv i hi1
    (repeat (first | refine st ?_ | refine And.intro rfl ?_ | refine sc (by omega) ?_ | refine sc (by simp only [List.length_map, List.length_append, List.length_cons, List.length_nil, List.length_set, List.length_replicate, List.length_singleton] at *; omega) ?_ | refine sc (And.intro (by omega) trivial) ?_ | refine sc (And.intro rfl (Nat.le_of_ble_eq_true rfl)) ?_ | refine sc (And.intro (by simp only [List.length_map, List.length_append, List.length_cons, List.length_nil, List.length_set, List.length_replicate, List.length_singleton] at *; omega) trivial) ?_ | refine sc (fun _ => trivial) ?_ | refine And.intro (fun _ => rfl) ?_ | refine sc (fun _ => And.intro (by omega) trivial) ?_))
    refine bg_at hi1 ?_
    refine inc (M := grAt (gs.getD i default) :: vr p 42 S_wicketlaw17_world.c x :: sl cSl 60 x.lists ls :: sl cSl 60 lg (gs.map (·.n)) :: bg grAt (gs.eraseIdx i) :: F) ?_
    refine check1_ok (ls := ls) (ns := gs.map (·.n)) (by omega) (by rw [List.length_map]; exact hi1) (by omega) (map_getD_eq hls hi1) (getD_map' hi1) h2 h3 ?_
    refine ent_take (A := bg grAt (gs.eraseIdx i)) (ent_take (A := grAt (gs.getD i default)) (bg_back hi1 ?_))
    exact inc (hK (i + 1) hi1 (by omega))
  · (repeat (first | refine st ?_ | refine And.intro rfl ?_ | refine sc (by omega) ?_ | refine sc (by simp only [List.length_map, List.length_append, List.length_cons, List.length_nil, List.length_set, List.length_replicate, List.length_singleton] at *; omega) ?_ | refine sc (And.intro (by omega) trivial) ?_ | refine sc (And.intro rfl (Nat.le_of_ble_eq_true rfl)) ?_ | refine sc (And.intro (by simp only [List.length_map, List.length_append, List.length_cons, List.length_nil, List.length_set, List.length_replicate, List.length_singleton] at *; omega) trivial) ?_ | refine sc (fun _ => trivial) ?_ | refine And.intro (fun _ => rfl) ?_ | refine sc (fun _ => And.intro (by omega) trivial) ?_))
    exact inc h
theorem grow_ok {p : Nat} {x : S_wicketlaw17_world} {ls : List Sl} {l : List (Sl × List E)} {R : Value → W} {F : List HProp} (hls : l.map (·.1) = ls) (hv : ∀ j, j < l.length → ∃ n, n ≤ 64 ∧ (l.getD j default).2 = List.replicate n (mkv j)) (hN : l.length ≤ 1000)
    (h : Ent F (R (.bool true))) : Ent (bg mlAt l :: vr p 42 S_wicketlaw17_world.c x :: sl cSl 60 x.lists ls :: F) (nf11_5 R (.pointer (pt p))) := by
  unfold nf11_5
  have hll : ls.length = l.length := by rw [← hls, List.length_map]
  refine bg_nil grAt (ent_nil cSl 60 ?_)
  refine ent_loop (γ := Sl × Nat × List GR) (fun t => [sv t.1, .int .i64 t.2.1]) (fun t => sl cSl 60 t.1 (t.2.2.map (·.n)) :: bg grAt t.2.2 :: bg mlAt (l.drop t.2.1) :: vr p 42 S_wicketlaw17_world.c x :: sl cSl 60 x.lists ls :: F)
    (fun t => t.2.1 ≤ l.length ∧ t.2.2.map (·.o) = ls.take t.2.1 ∧ ∀ j, j < t.2.1 → (t.2.2.getD j default).v = mkv j ∧ (t.2.2.getD j default).k ≤ 64) (fun t => l.length - t.2.1) (Sl.nil, 0, []) rfl ⟨by simp, by simp, fun j hj => by simp at hj⟩ ⟨fun _ h => h⟩ ?_
  intro ⟨lg, i, gs⟩ ⟨hi, hgo, hgv⟩ K1 j hK
  simp only [List.headD_cons, List.tail_cons] at *
  have hgl : gs.length = i := by have := congrArg List.length hgo; simp only [List.length_map, List.length_take] at this; omega
  (repeat (first | refine st ?_ | refine And.intro rfl ?_ | refine sc (by omega) ?_ | refine sc (by simp only [List.length_map, List.length_append, List.length_cons, List.length_nil, List.length_set, List.length_replicate, List.length_singleton] at *; omega) ?_ | refine sc (And.intro (by omega) trivial) ?_ | refine sc (And.intro rfl (Nat.le_of_ble_eq_true rfl)) ?_ | refine sc (And.intro (by simp only [List.length_map, List.length_append, List.length_cons, List.length_nil, List.length_set, List.length_replicate, List.length_singleton] at *; omega) trivial) ?_ | refine sc (fun _ => trivial) ?_ | refine And.intro (fun _ => rfl) ?_ | refine sc (fun _ => And.intro (by omega) trivial) ?_))
  refine cs (fun h1 => ?_) (fun h1 => ?_)
  · have hi1 : i < l.length := by omega
    obtain ⟨n, hn, hx⟩ := hv i hi1
    (repeat (first | refine st ?_ | refine And.intro rfl ?_ | refine sc (by omega) ?_ | refine sc (by simp only [List.length_map, List.length_append, List.length_cons, List.length_nil, List.length_set, List.length_replicate, List.length_singleton] at *; omega) ?_ | refine sc (And.intro (by omega) trivial) ?_ | refine sc (And.intro rfl (Nat.le_of_ble_eq_true rfl)) ?_ | refine sc (And.intro (by simp only [List.length_map, List.length_append, List.length_cons, List.length_nil, List.length_set, List.length_replicate, List.length_singleton] at *; omega) trivial) ?_ | refine sc (fun _ => trivial) ?_ | refine And.intro (fun _ => rfl) ?_ | refine sc (fun _ => And.intro (by omega) trivial) ?_))
    rw [map_getD_eq hls hi1, drop_getD hi1]
    refine ent_take (A := bg mlAt (l.getD i default :: l.drop (i + 1))) (bg_cons ?_)
    show Ent (sl S_cache_Entry.c 57 (l.getD i default).1 (l.getD i default).2 :: bg mlAt (l.drop (i + 1)) :: _) _
    rw [hx]
    refine inc (M := sl S_cache_Entry.c 57 (l.getD i default).1 (List.replicate n (mkv i)) :: sl cSl 60 lg (gs.map (·.n)) :: bg grAt gs :: bg mlAt (l.drop (i + 1)) :: vr p 42 S_wicketlaw17_world.c x :: sl cSl 60 x.lists ls :: F) ?_
    refine grow1_ok (i := i) (xs := gs.map (·.n)) hn (by omega) rfl (by rw [List.length_map]; omega) fun s' lg' => ?_
    have h9 := hK (lg', i + 1, gs ++ [⟨(l.getD i default).1, s', n, mkv i⟩]) ⟨hi1, ?_, fun j hj => ?_⟩ (by show _ - (i + 1) < _; omega)
    · simp only [List.map_append, List.map_cons, List.map_nil] at h9
      refine ent_take (A := grw S_cache_Entry.c 57 (l.getD i default).1 s' (List.replicate n (mkv i)) (List.replicate 16 (mkv i))) (ent_take (A := bg grAt gs) (bg_snoc (x := (⟨(l.getD i default).1, s', n, mkv i⟩ : GR)) (inc h9)))
    · simp only [List.map_append, List.map_cons, List.map_nil]
      rw [hgo, take_one (by omega), map_getD_eq hls hi1]
    · by_cases hj2 : j < i
      · have := hgv j hj2
        simp only [List.getD_eq_getElem?_getD] at *
        rw [List.getElem?_append_left (by omega)]
        exact this
      · have : j = i := by simp only at hj; omega
        subst this
        simp only [List.getD_eq_getElem?_getD]
        rw [List.getElem?_append_right (by omega), hgl, Nat.sub_self]
        exact ⟨rfl, hn⟩
  · have hil : i = l.length := by omega
    rw [List.take_of_length_le (by omega)] at hgo
    (repeat (first | refine st ?_ | refine And.intro rfl ?_ | refine sc (by omega) ?_ | refine sc (by simp only [List.length_map, List.length_append, List.length_cons, List.length_nil, List.length_set, List.length_replicate, List.length_singleton] at *; omega) ?_ | refine sc (And.intro (by omega) trivial) ?_ | refine sc (And.intro rfl (Nat.le_of_ble_eq_true rfl)) ?_ | refine sc (And.intro (by simp only [List.length_map, List.length_append, List.length_cons, List.length_nil, List.length_set, List.length_replicate, List.length_singleton] at *; omega) trivial) ?_ | refine sc (fun _ => trivial) ?_ | refine And.intro (fun _ => rfl) ?_ | refine sc (fun _ => And.intro (by omega) trivial) ?_))
    refine inc (M := bg grAt gs :: vr p 42 S_wicketlaw17_world.c x :: sl cSl 60 x.lists ls :: sl cSl 60 lg (gs.map (·.n)) :: F) ?_
    exact look_ok hgo (fun j hj => hgv j (by omega)) (by omega) h
theorem mark_ok {p : Nat} {x : S_wicketlaw17_world} {ls : List Sl} {l : List (Sl × List E)} {R : Value → W} {F : List HProp} (hls : l.map (·.1) = ls) (hv : ∀ x ∈ l, x.2.length ≤ 64) (hN : l.length ≤ 1000)
    (h : Ent F (R (.bool true))) : Ent (bg mlAt l :: vr p 42 S_wicketlaw17_world.c x :: sl cSl 60 x.lists ls :: F) (nf11_6 R (.pointer (pt p))) := by
  unfold nf11_6
  have hll : ls.length = l.length := by rw [← hls, List.length_map]
  refine ent_loop1 (γ := Nat × List (Sl × List E)) (fun t => [.int .i64 t.1]) (fun t => bg mlAt t.2) (fun t => t.1 ≤ l.length ∧ t.2.map (·.1) = ls ∧ (∀ x ∈ t.2, x.2.length ≤ 64) ∧ ∀ j, j < t.1 → ∃ n, n ≤ 64 ∧ (t.2.getD j default).2 = List.replicate n (mkv j)) (fun t => l.length - t.1) (0, l) rfl ⟨by simp, hls, hv, fun j hj => by simp at hj⟩ ?_
  intro ⟨i, t⟩ ⟨hi, htl, htv, htr⟩ K1 j hK
  simp only [List.headD_cons] at *
  have htlen : t.length = l.length := by rw [← hll, ← htl, List.length_map]
  (repeat (first | refine st ?_ | refine And.intro rfl ?_ | refine sc (by omega) ?_ | refine sc (by simp only [List.length_map, List.length_append, List.length_cons, List.length_nil, List.length_set, List.length_replicate, List.length_singleton] at *; omega) ?_ | refine sc (And.intro (by omega) trivial) ?_ | refine sc (And.intro rfl (Nat.le_of_ble_eq_true rfl)) ?_ | refine sc (And.intro (by simp only [List.length_map, List.length_append, List.length_cons, List.length_nil, List.length_set, List.length_replicate, List.length_singleton] at *; omega) trivial) ?_ | refine sc (fun _ => trivial) ?_ | refine And.intro (fun _ => rfl) ?_ | refine sc (fun _ => And.intro (by omega) trivial) ?_))
  refine cs (fun h1 => ?_) (fun h1 => ?_)
  · have hi1 : i < t.length := by omega
    have hx := htv _ (getD_mem hi1)
    (repeat (first | refine st ?_ | refine And.intro rfl ?_ | refine sc (by omega) ?_ | refine sc (by simp only [List.length_map, List.length_append, List.length_cons, List.length_nil, List.length_set, List.length_replicate, List.length_singleton] at *; omega) ?_ | refine sc (And.intro (by omega) trivial) ?_ | refine sc (And.intro rfl (Nat.le_of_ble_eq_true rfl)) ?_ | refine sc (And.intro (by simp only [List.length_map, List.length_append, List.length_cons, List.length_nil, List.length_set, List.length_replicate, List.length_singleton] at *; omega) trivial) ?_ | refine sc (fun _ => trivial) ?_ | refine And.intro (fun _ => rfl) ?_ | refine sc (fun _ => And.intro (by omega) trivial) ?_))
    refine bg_at hi1 ?_
    show Ent (sl S_cache_Entry.c 57 (t.getD i default).1 (t.getD i default).2 :: _) _
    refine inc (M := sl S_cache_Entry.c 57 (t.getD i default).1 (t.getD i default).2 :: vr p 42 S_wicketlaw17_world.c x :: sl cSl 60 x.lists ls :: bg mlAt (t.eraseIdx i) :: F) ?_
    refine mark1_ok (by omega) (by omega) (map_getD_eq htl hi1) hx ?_
    refine ent_take (A := bg mlAt (t.eraseIdx i)) (ent_take (A := sl S_cache_Entry.c 57 (t.getD i default).1 (List.replicate (t.getD i default).2.length (mkv i))) ?_)
    refine bg_put (f := mlAt) (x := ((t.getD i default).1, List.replicate (t.getD i default).2.length (mkv i))) hi1 ?_
    refine inc (hK (i + 1, t.set i ((t.getD i default).1, List.replicate (t.getD i default).2.length (mkv i))) ⟨by show i + 1 ≤ _; omega, ?_, fun y hy => ?_, fun j hj => ?_⟩ (by show _ - (i + 1) < _; omega))
    · simp only
      rw [List.map_set, htl]
      apply List.ext_getElem (by simp)
      intro k h1 h2
      rw [List.getElem_set]
      split
      · rename_i hk; subst hk
        have := map_getD_eq htl hi1
        show (t.getD i default).1 = ls[i]
        rw [← this]
        simp [h2]
      · rfl
    · rcases List.mem_or_eq_of_mem_set hy with hy | hy
      · exact htv y hy
      · rw [hy]; simp only [List.length_replicate]; exact hx
    · simp only at hj ⊢
      by_cases hji : j = i
      · subst hji
        rw [List.getD_eq_getElem?_getD, List.getElem?_set_self hi1]
        exact ⟨_, hx, rfl⟩
      · rw [List.getD_eq_getElem?_getD, List.getElem?_set_ne (Ne.symm hji), ← List.getD_eq_getElem?_getD]
        exact htr j (by omega)
  · have hil : i = l.length := by omega
    subst hil
    (repeat (first | refine st ?_ | refine And.intro rfl ?_ | refine sc (by omega) ?_ | refine sc (by simp only [List.length_map, List.length_append, List.length_cons, List.length_nil, List.length_set, List.length_replicate, List.length_singleton] at *; omega) ?_ | refine sc (And.intro (by omega) trivial) ?_ | refine sc (And.intro rfl (Nat.le_of_ble_eq_true rfl)) ?_ | refine sc (And.intro (by simp only [List.length_map, List.length_append, List.length_cons, List.length_nil, List.length_set, List.length_replicate, List.length_singleton] at *; omega) trivial) ?_ | refine sc (fun _ => trivial) ?_ | refine And.intro (fun _ => rfl) ?_ | refine sc (fun _ => And.intro (by omega) trivial) ?_))
    exact grow_ok htl (fun j hj => htr j (by omega)) (by omega) h
theorem apart_ok {p : Nat} {g : GW} {N : Nat} {K : Value → W} {F : List HProp} (hI : Inv g N) (hN : N ≤ 1000) (h : Ent F (K (.bool true))) : Ent (wAt p g :: F) (callC Tryd.prog 11 [.pointer (pt p)] K) := by
  refine ent_mono ?_ fun w => nf11_ok
  unfold nf11
  refine w_open fun a b s o n => ?_
  have hx := hI.hn
  refine inc (M := bg hlAt g.hl :: vr p 42 S_wicketlaw17_world.c (wv g a b s o n) :: sl cSl 60 a (g.hl.map (·.s)) :: sl cSl 46 b (g.hl.map (·.w)) :: F) ?_
  refine ent_loop0 (γ := Nat) (fun t => [.int .i64 t]) (fun t => t ≤ g.hl.length) (fun t => g.hl.length - t) 0 rfl (by omega) ?_
  intro i hi K1 j hK
  simp only [List.headD_cons] at *
  (repeat (first | refine st ?_ | refine And.intro rfl ?_ | refine sc (by omega) ?_ | refine sc (by simp only [List.length_map, List.length_append, List.length_cons, List.length_nil, List.length_set, List.length_replicate, List.length_singleton] at *; omega) ?_ | refine sc (And.intro (by omega) trivial) ?_ | refine sc (And.intro rfl (Nat.le_of_ble_eq_true rfl)) ?_ | refine sc (And.intro (by simp only [List.length_map, List.length_append, List.length_cons, List.length_nil, List.length_set, List.length_replicate, List.length_singleton] at *; omega) trivial) ?_ | refine sc (fun _ => trivial) ?_ | refine And.intro (fun _ => rfl) ?_ | refine sc (fun _ => And.intro (by omega) trivial) ?_))
  refine cs (fun h1 => ?_) (fun h1 => ?_)
  · have hi1 : i < g.hl.length := by simp only [List.length_map] at h1; omega
    have hxl := hI.hx _ (getD_mem hi1)
    (repeat (first | refine st ?_ | refine And.intro rfl ?_ | refine sc (by omega) ?_ | refine sc (by simp only [List.length_map, List.length_append, List.length_cons, List.length_nil, List.length_set, List.length_replicate, List.length_singleton] at *; omega) ?_ | refine sc (And.intro (by omega) trivial) ?_ | refine sc (And.intro rfl (Nat.le_of_ble_eq_true rfl)) ?_ | refine sc (And.intro (by simp only [List.length_map, List.length_append, List.length_cons, List.length_nil, List.length_set, List.length_replicate, List.length_singleton] at *; omega) trivial) ?_ | refine sc (fun _ => trivial) ?_ | refine And.intro (fun _ => rfl) ?_ | refine sc (fun _ => And.intro (by omega) trivial) ?_))
    have e1 : (g.hl.map (·.s)).getD i default = (g.hl.getD i default).s := getD_map' hi1
    have e2 : (g.hl.map (·.w)).getD i default = (g.hl.getD i default).w := getD_map' hi1
    rw [e1, e2]
    refine bg_at hi1 (hl_open ?_)
    refine plain_ok (l := (g.hl.getD i default).xs) (by omega) fun s3 => ?_
    (repeat (first | refine st ?_ | refine And.intro rfl ?_ | refine sc (by omega) ?_ | refine sc (by simp only [List.length_map, List.length_append, List.length_cons, List.length_nil, List.length_set, List.length_replicate, List.length_singleton] at *; omega) ?_ | refine sc (And.intro (by omega) trivial) ?_ | refine sc (And.intro rfl (Nat.le_of_ble_eq_true rfl)) ?_ | refine sc (And.intro (by simp only [List.length_map, List.length_append, List.length_cons, List.length_nil, List.length_set, List.length_replicate, List.length_singleton] at *; omega) trivial) ?_ | refine sc (fun _ => trivial) ?_ | refine And.intro (fun _ => rfl) ?_ | refine sc (fun _ => And.intro (by omega) trivial) ?_))
    refine And.intro (by rw [e2]) ?_
    (repeat (first | refine st ?_ | refine And.intro rfl ?_ | refine sc (by omega) ?_ | refine sc (by simp only [List.length_map, List.length_append, List.length_cons, List.length_nil, List.length_set, List.length_replicate, List.length_singleton] at *; omega) ?_ | refine sc (And.intro (by omega) trivial) ?_ | refine sc (And.intro rfl (Nat.le_of_ble_eq_true rfl)) ?_ | refine sc (And.intro (by simp only [List.length_map, List.length_append, List.length_cons, List.length_nil, List.length_set, List.length_replicate, List.length_singleton] at *; omega) trivial) ?_ | refine sc (fun _ => trivial) ?_ | refine And.intro (fun _ => rfl) ?_ | refine sc (fun _ => And.intro (by omega) trivial) ?_))
    refine same_ok (l1 := (g.hl.getD i default).xs.map toR) (l2 := (g.hl.getD i default).xs.map toR) (by rw [List.length_map]; omega) (fun _ => ?_) (fun hc => absurd rfl hc)
    (repeat (first | refine st ?_ | refine And.intro rfl ?_ | refine sc (by omega) ?_ | refine sc (by simp only [List.length_map, List.length_append, List.length_cons, List.length_nil, List.length_set, List.length_replicate, List.length_singleton] at *; omega) ?_ | refine sc (And.intro (by omega) trivial) ?_ | refine sc (And.intro rfl (Nat.le_of_ble_eq_true rfl)) ?_ | refine sc (And.intro (by simp only [List.length_map, List.length_append, List.length_cons, List.length_nil, List.length_set, List.length_replicate, List.length_singleton] at *; omega) trivial) ?_ | refine sc (fun _ => trivial) ?_ | refine And.intro (fun _ => rfl) ?_ | refine sc (fun _ => And.intro (by omega) trivial) ?_))
    refine ent_take (A := sl S_wicketref17_Entry.c 76 (g.hl.getD i default).w ((g.hl.getD i default).xs.map toR)) (ent_take (A := sl S_cache_Entry.c 57 (g.hl.getD i default).s (g.hl.getD i default).xs) (hl_shut ?_))
    refine ent_take (A := bg hlAt (g.hl.eraseIdx i)) (ent_take (A := hlAt (g.hl.getD i default)) (bg_back hi1 ?_))
    exact inc (hK (i + 1) hi1 (by omega))
  · (repeat (first | refine st ?_ | refine And.intro rfl ?_ | refine sc (by omega) ?_ | refine sc (by simp only [List.length_map, List.length_append, List.length_cons, List.length_nil, List.length_set, List.length_replicate, List.length_singleton] at *; omega) ?_ | refine sc (And.intro (by omega) trivial) ?_ | refine sc (And.intro rfl (Nat.le_of_ble_eq_true rfl)) ?_ | refine sc (And.intro (by simp only [List.length_map, List.length_append, List.length_cons, List.length_nil, List.length_set, List.length_replicate, List.length_singleton] at *; omega) trivial) ?_ | refine sc (fun _ => trivial) ?_ | refine And.intro (fun _ => rfl) ?_ | refine sc (fun _ => And.intro (by omega) trivial) ?_))
    refine bg_weak (g := fun x => mlAt (x.s, x.xs)) (fun x _ L h hs => ?_) ?_
    · have h2 : sats (sl S_cache_Entry.c 57 x.s x.xs :: sl S_wicketref17_Entry.c 76 x.w (x.xs.map toR) :: L) h := sats_stars.1 hs
      exact sats_tail (fun _ h => sats_drop h) h2
    · rw [← bg_map (f := mlAt) (k := fun x : HL => (x.s, x.xs))]
      refine inc (M := bg mlAt (g.hl.map fun x => (x.s, x.xs)) :: vr p 42 S_wicketlaw17_world.c (wv g a b s o n) :: sl cSl 60 a (g.hl.map (·.s)) :: F) ?_
      refine mark_ok (by rw [List.map_map]; rfl) (fun x hx => ?_) (by rw [List.length_map]; omega) h
      obtain ⟨y, hy, rfl⟩ := List.mem_map.1 hx
      exact hI.hx y hy
end Go.Proofs.YtmnokpffpadgoaaDoor
