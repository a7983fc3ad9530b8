/- Lists marked, grown, looked at: the whole. -/
import Derived.Test.YtipjamgjgijeeaaLg
namespace Go.Proofs.Ytipjamgjgijeeaa
set_option linter.unusedSimpArgs false
set_option linter.unusedVariables false
open Go.Dn
set_option linter.unusedSectionVars false
set_option synthInstance.maxSize 10000
set_option synthInstance.maxHeartbeats 400000
set_option maxHeartbeats 2000000
variable [sd : Side]
section
variable {F : List HProp} {K : Value → W}
def gOf (ts : List PL) (i : Nat) : GM := ⟨((ts.getD i default).1, (ts.getD i default).2.length), i, [((ts.getD i default).1, (ts.getD i default).2.length)]⟩
def osOf (ts : List PL) : List (Sl × Nat) := ts.map fun x => (x.1, x.2.length)
theorem range_self {α : Type} [Inhabited α] {l : List α} : l = (List.range l.length).map (fun i => l.getD i default) := by
  apply List.ext_getElem (by simp)
  intro i h1 h2
  simp [h1]
theorem os_at {ts : List PL} {i : Nat} (hi : i < ts.length) : (osOf ts).getD i default = ((ts.getD i default).1, (ts.getD i default).2.length) := by
  unfold osOf
  have : ((ts.map fun x => (x.1, x.2.length)) : List (Sl × Nat)).getD i default = (fun x : PL => (x.1, x.2.length)) (ts.getD i default) := getD_map' hi
  exact this
theorem gi_start {ts : List PL} (hb : ∀ i, i < ts.length → (ts.getD i default).2.length ≤ 100000) : GI ts.length ((List.range ts.length).map (gOf ts)) (osOf ts) [] := by
  have at_ : ∀ i, i < ts.length → ((List.range ts.length).map (gOf ts)).getD i default = gOf ts i := fun i hi => by simp [hi]
  refine ⟨by simp, by simp [osOf], fun i hi => by rw [at_ i hi]; rfl, fun i hi => by rw [at_ i hi, os_at hi]; exact .head _, fun j hj => absurd hj (by simp), fun x hx => ?_, fun x hx => absurd hx List.not_mem_nil⟩
  obtain ⟨y, hy, rfl⟩ := List.mem_map.1 hx
  obtain ⟨i, hi, rfl⟩ := mem_getD hy
  exact hb i hi
theorem toQ {ts : List PL} {φ : W} (hm : ∀ i, i < ts.length → (ts.getD i default).2 = List.replicate (ts.getD i default).2.length (mkQ i)) (h : Ent (bg mQ ((List.range ts.length).map (gOf ts)) :: F) φ) : Ent (bg uQ ts :: F) φ := by
  have e : bg uQ ts = bg (fun i => uQ (ts.getD i default)) (List.range ts.length) := by
    rw [← bg_map (f := uQ) (k := fun i => ts.getD i default), ← range_self]
  rw [e]
  rw [bg_map] at h
  refine bg_weak (g := fun i => mQ (gOf ts i)) (fun i hi L hp hs => sats_head (fun hq hh => ?_) hs) h
  have hh' : sl (cInt .u64) 30 (ts.getD i default).1 (List.replicate (ts.getD i default).2.length (mkQ i)) hq := by
    have : sl (cInt .u64) 30 (ts.getD i default).1 (ts.getD i default).2 hq := hh
    rwa [hm i (by simpa using hi)] at this
  exact mrk_of hh'
theorem toH {ts : List PL} {φ : W} (hm : ∀ i, i < ts.length → (ts.getD i default).2 = List.replicate (ts.getD i default).2.length (mkH i)) (h : Ent (bg mH ((List.range ts.length).map (gOf ts)) :: F) φ) : Ent (bg uH ts :: F) φ := by
  have e : bg uH ts = bg (fun i => uH (ts.getD i default)) (List.range ts.length) := by
    rw [← bg_map (f := uH) (k := fun i => ts.getD i default), ← range_self]
  rw [e]
  rw [bg_map] at h
  refine bg_weak (g := fun i => mH (gOf ts i)) (fun i hi L hp hs => sats_head (fun hq hh => ?_) hs) h
  have hh' : sl (cInt .i64) 3 (ts.getD i default).1 (List.replicate (ts.getD i default).2.length (mkH i)) hq := by
    have : sl (cInt .i64) 3 (ts.getD i default).1 (ts.getD i default).2 hq := hh
    rwa [hm i (by simpa using hi)] at this
  exact mrk_of hh'
theorem mod_at {k N i : Nat} (h : i < N) : (k * N + i) % N = i := by
  rw [Nat.mul_comm, Nat.mul_add_mod]; exact Nat.mod_eq_of_lt h
/-- The looks. -/
theorem looks_ok {N M : Nat} {a b lgQ lgH : Sl} {asQ asH : List Sl} {gsQ gsH : List GM} {osQ osH lqQ lqH : List (Sl × Nat)} (hQ : GI N gsQ osQ lqQ) (hH : GI M gsH osH lqH) (aQ : asQ.length = N) (aH : asH.length = M) (hN : N ≤ 1000) (hM : M ≤ 1000)
    (zQ : lqQ.length = 17 * N) (zH : lqH.length = 17 * M) (h : Ent F (K (.bool true))) :
    Ent (bg mQ gsQ :: sl cSl 22 lgQ (lqQ.map (·.1)) :: bg mH gsH :: sl cSl 37 lgH (lqH.map (·.1)) :: sl cSl 22 a asQ :: sl cSl 37 b asH :: F) (nf16_10 K (sv a) (sv b) (.int .i64 lqQ.length) (sv lgQ) (sv lgH)) := by
  unfold nf16_10
  refine ent_loop0 (γ := Nat) (fun i => [.int .i64 i]) (fun i => i ≤ lqQ.length) (fun i => lqQ.length - i) 0 rfl (by omega) ?_
  intro q hq K1 j hK
  simp only [List.headD_cons] at *
  refine cs (fun h1 => ?_) (fun h1 => ?_)
  · have hql : q < lqQ.length := by omega
    have hN0 : 0 < N := by omega
    have g1 : (lqQ.map (·.1)).getD q default = (lqQ.getD q default).1 := getD_map' hql
    have hqi : q % N < N := Nat.mod_lt _ hN0
    have hgl := hQ.len
    haveI r1 : ∀ M, Rs (bg mQ gsQ :: M) (lqQ.getD q default).1 (cInt .u64) (List.replicate (lqQ.getD q default).2 (mkQ (gsQ.getD (q % N) default).i)) := fun M => rs_bg (f := mQ) (l := gsQ) (i := q % N) (by omega) (fun M => mrk_rs (hQ.mem q hql) M) M
    (repeat (first | refine st ?_ | refine And.intro rfl ?_ | refine sc (by omega) ?_ | refine sc (by simp only [List.length_map, List.length_append, List.length_cons, List.length_nil, List.length_set, List.length_replicate, List.length_singleton] at *; omega) ?_ | refine sc (And.intro (by omega) trivial) ?_ | refine sc (And.intro rfl (Nat.le_of_ble_eq_true rfl)) ?_ | refine sc (And.intro (by simp only [List.length_map, List.length_append, List.length_cons, List.length_nil, List.length_set, List.length_replicate, List.length_singleton] at *; omega) trivial) ?_ | refine sc (by decide) ?_ | refine sc (fun _ => trivial) ?_ | refine And.intro (fun _ => rfl) ?_ | refine sc (fun _ => And.intro (by omega) trivial) ?_))
    rw [g1]
    (repeat (first | refine st ?_ | refine And.intro rfl ?_ | refine sc (by omega) ?_ | refine sc (by simp only [List.length_map, List.length_append, List.length_cons, List.length_nil, List.length_set, List.length_replicate, List.length_singleton] at *; omega) ?_ | refine sc (And.intro (by omega) trivial) ?_ | refine sc (And.intro rfl (Nat.le_of_ble_eq_true rfl)) ?_ | refine sc (And.intro (by simp only [List.length_map, List.length_append, List.length_cons, List.length_nil, List.length_set, List.length_replicate, List.length_singleton] at *; omega) trivial) ?_ | refine sc (by decide) ?_ | refine sc (fun _ => trivial) ?_ | refine And.intro (fun _ => rfl) ?_ | refine sc (fun _ => And.intro (by omega) trivial) ?_))
    rw [List.length_replicate]
    have h9 := hK (q + 1) (by omega) (by omega)
    refine inc (M := bg mQ gsQ :: sl cSl 22 a asQ :: sl cSl 22 lgQ (lqQ.map (·.1)) :: bg mH gsH :: sl cSl 37 lgH (lqH.map (·.1)) :: sl cSl 37 b asH :: F) ?_
    exact lookQ_ok hQ hN0 (by omega) aQ hql (by omega) (inc h9)
  · clear hK
    (repeat (first | refine st ?_ | refine And.intro rfl ?_ | refine sc (by omega) ?_ | refine sc (by simp only [List.length_map, List.length_append, List.length_cons, List.length_nil, List.length_set, List.length_replicate, List.length_singleton] at *; omega) ?_ | refine sc (And.intro (by omega) trivial) ?_ | refine sc (And.intro rfl (Nat.le_of_ble_eq_true rfl)) ?_ | refine sc (And.intro (by simp only [List.length_map, List.length_append, List.length_cons, List.length_nil, List.length_set, List.length_replicate, List.length_singleton] at *; omega) trivial) ?_ | refine sc (by decide) ?_ | refine sc (fun _ => trivial) ?_ | refine And.intro (fun _ => rfl) ?_ | refine sc (fun _ => And.intro (by omega) trivial) ?_))
    rw [List.length_map]
    unfold nf16_9
    refine ent_loop0 (γ := Nat) (fun i => [.int .i64 i]) (fun i => i ≤ lqH.length) (fun i => lqH.length - i) 0 rfl (by omega) ?_
    intro q hq K1 j hK
    simp only [List.headD_cons] at *
    refine cs (fun h1 => ?_) (fun h1 => ?_)
    · have hql : q < lqH.length := by omega
      have hN0 : 0 < M := by omega
      have g1 : (lqH.map (·.1)).getD q default = (lqH.getD q default).1 := getD_map' hql
      have hqi : q % M < M := Nat.mod_lt _ hN0
      have hgl := hH.len
      haveI r1 : ∀ M', Rs (bg mH gsH :: M') (lqH.getD q default).1 (cInt .i64) (List.replicate (lqH.getD q default).2 (mkH (gsH.getD (q % M) default).i)) := fun M' => rs_bg (f := mH) (l := gsH) (i := q % M) (by omega) (fun M' => mrk_rs (hH.mem q hql) M') M'
      (repeat (first | refine st ?_ | refine And.intro rfl ?_ | refine sc (by omega) ?_ | refine sc (by simp only [List.length_map, List.length_append, List.length_cons, List.length_nil, List.length_set, List.length_replicate, List.length_singleton] at *; omega) ?_ | refine sc (And.intro (by omega) trivial) ?_ | refine sc (And.intro rfl (Nat.le_of_ble_eq_true rfl)) ?_ | refine sc (And.intro (by simp only [List.length_map, List.length_append, List.length_cons, List.length_nil, List.length_set, List.length_replicate, List.length_singleton] at *; omega) trivial) ?_ | refine sc (by decide) ?_ | refine sc (fun _ => trivial) ?_ | refine And.intro (fun _ => rfl) ?_ | refine sc (fun _ => And.intro (by omega) trivial) ?_))
      rw [g1]
      (repeat (first | refine st ?_ | refine And.intro rfl ?_ | refine sc (by omega) ?_ | refine sc (by simp only [List.length_map, List.length_append, List.length_cons, List.length_nil, List.length_set, List.length_replicate, List.length_singleton] at *; omega) ?_ | refine sc (And.intro (by omega) trivial) ?_ | refine sc (And.intro rfl (Nat.le_of_ble_eq_true rfl)) ?_ | refine sc (And.intro (by simp only [List.length_map, List.length_append, List.length_cons, List.length_nil, List.length_set, List.length_replicate, List.length_singleton] at *; omega) trivial) ?_ | refine sc (by decide) ?_ | refine sc (fun _ => trivial) ?_ | refine And.intro (fun _ => rfl) ?_ | refine sc (fun _ => And.intro (by omega) trivial) ?_))
      rw [List.length_replicate]
      have h9 := hK (q + 1) (by omega) (by omega)
      refine inc (M := bg mH gsH :: sl cSl 37 b asH :: sl cSl 37 lgH (lqH.map (·.1)) :: bg mQ gsQ :: sl cSl 22 lgQ (lqQ.map (·.1)) :: sl cSl 22 a asQ :: F) ?_
      exact lookH_ok hH hN0 (by omega) aH hql (by omega) (inc h9)
    · (repeat (first | refine st ?_ | refine And.intro rfl ?_ | refine sc (by omega) ?_ | refine sc (by simp only [List.length_map, List.length_append, List.length_cons, List.length_nil, List.length_set, List.length_replicate, List.length_singleton] at *; omega) ?_ | refine sc (And.intro (by omega) trivial) ?_ | refine sc (And.intro rfl (Nat.le_of_ble_eq_true rfl)) ?_ | refine sc (And.intro (by simp only [List.length_map, List.length_append, List.length_cons, List.length_nil, List.length_set, List.length_replicate, List.length_singleton] at *; omega) trivial) ?_ | refine sc (by decide) ?_ | refine sc (fun _ => trivial) ?_ | refine And.intro (fun _ => rfl) ?_ | refine sc (fun _ => And.intro (by omega) trivial) ?_))
      exact inc h
/-- The growing. -/
theorem grows_ok {N M : Nat} {a b : Sl} {asQ asH : List Sl} {gsQ gsH : List GM} {osQ osH : List (Sl × Nat)} (hQ : GI N gsQ osQ []) (hH : GI M gsH osH []) (aQ : asQ = osQ.map (·.1)) (aH : asH = osH.map (·.1)) (hN : N ≤ 1000) (hM : M ≤ 1000) (h : Ent F (K (.bool true))) :
    Ent (bg mQ gsQ :: bg mH gsH :: sl cSl 22 a asQ :: sl cSl 37 b asH :: F) (nf16_11 K (sv a) (sv b)) := by
  unfold nf16_11
  have lQ : asQ.length = N := by rw [aQ, List.length_map, hQ.ol]
  have lH : asH.length = M := by rw [aH, List.length_map, hH.ol]
  refine ent_nil cSl 22 (ent_nil cSl 37 ?_)
  refine inc (M := bg mQ gsQ :: sl cSl 22 Sl.nil [] :: bg mH gsH :: sl cSl 37 Sl.nil [] :: sl cSl 22 a asQ :: sl cSl 37 b asH :: F) ?_
  refine ent_loop (γ := Sl × Sl × Nat × List GM × List (Sl × Nat) × List GM × List (Sl × Nat)) (fun t => [sv t.1, sv t.2.1, .int .i64 t.2.2.1])
    (fun t => bg mQ t.2.2.2.1 :: sl cSl 22 t.1 (t.2.2.2.2.1.map (·.1)) :: bg mH t.2.2.2.2.2.1 :: sl cSl 37 t.2.1 (t.2.2.2.2.2.2.map (·.1)) :: sl cSl 22 a asQ :: sl cSl 37 b asH :: F)
    (fun t => t.2.2.1 ≤ 17 ∧ GI N t.2.2.2.1 osQ t.2.2.2.2.1 ∧ t.2.2.2.2.1.length = t.2.2.1 * N ∧ GI M t.2.2.2.2.2.1 osH t.2.2.2.2.2.2 ∧ t.2.2.2.2.2.2.length = t.2.2.1 * M) (fun t => 17 - t.2.2.1) (Sl.nil, Sl.nil, 0, gsQ, [], gsH, []) rfl ⟨by simp, hQ, by simp, hH, by simp⟩ ⟨fun _ hs => hs⟩ ?_
  intro ⟨lgQ, lgH, k, gsQ, lqQ, gsH, lqH⟩ ⟨hk, hQ, zQ, hH, zH⟩ K1 j hK
  simp only [List.headD_cons, List.tail_cons] at *
  have bQ : k * N ≤ 17 * 1000 := Nat.mul_le_mul hk hN
  have bH : k * M ≤ 17 * 1000 := Nat.mul_le_mul hk hM
  refine cs (fun h1 => ?_) (fun h1 => ?_)
  · have hk16 : k ≤ 16 := by omega
    (repeat (first | refine st ?_ | refine And.intro rfl ?_ | refine sc (by omega) ?_ | refine sc (by simp only [List.length_map, List.length_append, List.length_cons, List.length_nil, List.length_set, List.length_replicate, List.length_singleton] at *; omega) ?_ | refine sc (And.intro (by omega) trivial) ?_ | refine sc (And.intro rfl (Nat.le_of_ble_eq_true rfl)) ?_ | refine sc (And.intro (by simp only [List.length_map, List.length_append, List.length_cons, List.length_nil, List.length_set, List.length_replicate, List.length_singleton] at *; omega) trivial) ?_ | refine sc (by decide) ?_ | refine sc (fun _ => trivial) ?_ | refine And.intro (fun _ => rfl) ?_ | refine sc (fun _ => And.intro (by omega) trivial) ?_))
    rw [lQ]
    unfold nf16_6
    refine ent_loop (γ := Sl × Nat × List GM × List (Sl × Nat)) (fun t => [sv t.1, .int .i64 t.2.1])
      (fun t => bg mQ t.2.2.1 :: sl cSl 22 t.1 (t.2.2.2.map (·.1)) :: bg mH gsH :: sl cSl 37 lgH (lqH.map (·.1)) :: sl cSl 22 a asQ :: sl cSl 37 b asH :: F)
      (fun t => t.2.1 ≤ N ∧ GI N t.2.2.1 osQ t.2.2.2 ∧ t.2.2.2.length = k * N + t.2.1) (fun t => N - t.2.1) (lgQ, 0, gsQ, lqQ) rfl ⟨by simp, hQ, by simpa using zQ⟩ ⟨fun _ hs => hs⟩ ?_
    intro ⟨lgQ, i, gsQ, lqQ⟩ ⟨hi, hQ, zQ⟩ K2 j2 hK2
    simp only [List.headD_cons, List.tail_cons] at *
    refine cs (fun h2 => ?_) (fun h2 => ?_)
    · have hiN : i < N := by omega
      have g1 : asQ.getD i default = (osQ.getD i default).1 := by rw [aQ]; exact getD_map' (by rw [hQ.ol]; exact hiN)
      (repeat (first | refine st ?_ | refine And.intro rfl ?_ | refine sc (by omega) ?_ | refine sc (by simp only [List.length_map, List.length_append, List.length_cons, List.length_nil, List.length_set, List.length_replicate, List.length_singleton] at *; omega) ?_ | refine sc (And.intro (by omega) trivial) ?_ | refine sc (And.intro rfl (Nat.le_of_ble_eq_true rfl)) ?_ | refine sc (And.intro (by simp only [List.length_map, List.length_append, List.length_cons, List.length_nil, List.length_set, List.length_replicate, List.length_singleton] at *; omega) trivial) ?_ | refine sc (by decide) ?_ | refine sc (fun _ => trivial) ?_ | refine And.intro (fun _ => rfl) ?_ | refine sc (fun _ => And.intro (by omega) trivial) ?_))
      rw [g1]
      refine growQ_ok hQ hiN hk16 (by omega) (by omega) (by rw [zQ]; exact mod_at hiN) fun lg' gs' lq' h3 h4 => ?_
      exact hK2 (lg', i + 1, gs', lq') ⟨by show i + 1 ≤ N; omega, h3, by show lq'.length = k * N + (i + 1); omega⟩ (by show N - (i + 1) < N - i; omega)
    · have hiN : i = N := by omega
      subst hiN
      clear hK2
      (repeat (first | refine st ?_ | refine And.intro rfl ?_ | refine sc (by omega) ?_ | refine sc (by simp only [List.length_map, List.length_append, List.length_cons, List.length_nil, List.length_set, List.length_replicate, List.length_singleton] at *; omega) ?_ | refine sc (And.intro (by omega) trivial) ?_ | refine sc (And.intro rfl (Nat.le_of_ble_eq_true rfl)) ?_ | refine sc (And.intro (by simp only [List.length_map, List.length_append, List.length_cons, List.length_nil, List.length_set, List.length_replicate, List.length_singleton] at *; omega) trivial) ?_ | refine sc (by decide) ?_ | refine sc (fun _ => trivial) ?_ | refine And.intro (fun _ => rfl) ?_ | refine sc (fun _ => And.intro (by omega) trivial) ?_))
      rw [lH]
      unfold nf16_5
      refine inc (M := bg mH gsH :: sl cSl 37 lgH (lqH.map (·.1)) :: bg mQ gsQ :: sl cSl 22 lgQ (lqQ.map (·.1)) :: sl cSl 22 a asQ :: sl cSl 37 b asH :: F) ?_
      refine ent_loop (γ := Sl × Nat × List GM × List (Sl × Nat)) (fun t => [sv t.1, .int .i64 t.2.1])
        (fun t => bg mH t.2.2.1 :: sl cSl 37 t.1 (t.2.2.2.map (·.1)) :: bg mQ gsQ :: sl cSl 22 lgQ (lqQ.map (·.1)) :: sl cSl 22 a asQ :: sl cSl 37 b asH :: F)
        (fun t => t.2.1 ≤ M ∧ GI M t.2.2.1 osH t.2.2.2 ∧ t.2.2.2.length = k * M + t.2.1) (fun t => M - t.2.1) (lgH, 0, gsH, lqH) rfl ⟨by simp, hH, by simpa using zH⟩ ⟨fun _ hs => hs⟩ ?_
      intro ⟨lgH, i2, gsH, lqH⟩ ⟨hi2, hH, zH⟩ K3 j3 hK3
      simp only [List.headD_cons, List.tail_cons] at *
      refine cs (fun h2 => ?_) (fun h2 => ?_)
      · have hiM : i2 < M := by omega
        have g1 : asH.getD i2 default = (osH.getD i2 default).1 := by rw [aH]; exact getD_map' (by rw [hH.ol]; exact hiM)
        (repeat (first | refine st ?_ | refine And.intro rfl ?_ | refine sc (by omega) ?_ | refine sc (by simp only [List.length_map, List.length_append, List.length_cons, List.length_nil, List.length_set, List.length_replicate, List.length_singleton] at *; omega) ?_ | refine sc (And.intro (by omega) trivial) ?_ | refine sc (And.intro rfl (Nat.le_of_ble_eq_true rfl)) ?_ | refine sc (And.intro (by simp only [List.length_map, List.length_append, List.length_cons, List.length_nil, List.length_set, List.length_replicate, List.length_singleton] at *; omega) trivial) ?_ | refine sc (by decide) ?_ | refine sc (fun _ => trivial) ?_ | refine And.intro (fun _ => rfl) ?_ | refine sc (fun _ => And.intro (by omega) trivial) ?_))
        rw [g1]
        refine growH_ok hH hiM hk16 (by omega) (by omega) (by rw [zH]; exact mod_at hiM) fun lg' gs' lq' h3 h4 => ?_
        exact hK3 (lg', i2 + 1, gs', lq') ⟨by show i2 + 1 ≤ M; omega, h3, by show lq'.length = k * M + (i2 + 1); omega⟩ (by show M - (i2 + 1) < M - i2; omega)
      · have hiM : i2 = M := by omega
        subst hiM
        clear hK3
        (repeat (first | refine st ?_ | refine And.intro rfl ?_ | refine sc (by omega) ?_ | refine sc (by simp only [List.length_map, List.length_append, List.length_cons, List.length_nil, List.length_set, List.length_replicate, List.length_singleton] at *; omega) ?_ | refine sc (And.intro (by omega) trivial) ?_ | refine sc (And.intro rfl (Nat.le_of_ble_eq_true rfl)) ?_ | refine sc (And.intro (by simp only [List.length_map, List.length_append, List.length_cons, List.length_nil, List.length_set, List.length_replicate, List.length_singleton] at *; omega) trivial) ?_ | refine sc (by decide) ?_ | refine sc (fun _ => trivial) ?_ | refine And.intro (fun _ => rfl) ?_ | refine sc (fun _ => And.intro (by omega) trivial) ?_))
        have h9 := hK (lgQ, lgH, k + 1, gsQ, lqQ, gsH, lqH) ⟨by show k + 1 ≤ 17; omega, hQ, by show lqQ.length = (k + 1) * _; rw [zQ, Nat.add_mul, Nat.one_mul], hH, by show lqH.length = (k + 1) * _; rw [zH, Nat.add_mul, Nat.one_mul]⟩ (by show 17 - (k + 1) < 17 - k; omega)
        exact inc h9
  · have hk17 : k = 17 := by omega
    subst hk17
    clear hK
    (repeat (first | refine st ?_ | refine And.intro rfl ?_ | refine sc (by omega) ?_ | refine sc (by simp only [List.length_map, List.length_append, List.length_cons, List.length_nil, List.length_set, List.length_replicate, List.length_singleton] at *; omega) ?_ | refine sc (And.intro (by omega) trivial) ?_ | refine sc (And.intro rfl (Nat.le_of_ble_eq_true rfl)) ?_ | refine sc (And.intro (by simp only [List.length_map, List.length_append, List.length_cons, List.length_nil, List.length_set, List.length_replicate, List.length_singleton] at *; omega) trivial) ?_ | refine sc (by decide) ?_ | refine sc (fun _ => trivial) ?_ | refine And.intro (fun _ => rfl) ?_ | refine sc (fun _ => And.intro (by omega) trivial) ?_))
    rw [List.length_map]
    exact looks_ok hQ hH lQ lH hN hM zQ zH h
theorem marked_ok {a b : Sl} {zq zh : List PL} (hN : zq.length ≤ 1000) (hM : zh.length ≤ 1000) (bq : ∀ i, i < zq.length → (zq.getD i default).2.length ≤ 100000) (bh : ∀ i, i < zh.length → (zh.getD i default).2.length ≤ 100000) (h : Ent F (K (.bool true))) :
    Ent (sl cSl 22 a (zq.map (·.1)) :: bg uQ zq :: sl cSl 37 b (zh.map (·.1)) :: bg uH zh :: F) (callC Try.prog 16 [sv a, sv b] K) := by
  refine ent_mono ?_ fun w => nf16_ok
  unfold nf16
  (repeat (first | refine st ?_ | refine And.intro rfl ?_ | refine sc (by omega) ?_ | refine sc (by simp only [List.length_map, List.length_append, List.length_cons, List.length_nil, List.length_set, List.length_replicate, List.length_singleton] at *; omega) ?_ | refine sc (And.intro (by omega) trivial) ?_ | refine sc (And.intro rfl (Nat.le_of_ble_eq_true rfl)) ?_ | refine sc (And.intro (by simp only [List.length_map, List.length_append, List.length_cons, List.length_nil, List.length_set, List.length_replicate, List.length_singleton] at *; omega) trivial) ?_ | refine sc (by decide) ?_ | refine sc (fun _ => trivial) ?_ | refine And.intro (fun _ => rfl) ?_ | refine sc (fun _ => And.intro (by omega) trivial) ?_))
  rw [List.length_map]
  refine ent_loop (γ := Nat × List PL) (fun t => [.int .i64 t.1]) (fun t => sl cSl 22 a (t.2.map (·.1)) :: bg uQ t.2 :: sl cSl 37 b (zh.map (·.1)) :: bg uH zh :: F)
    (fun t => t.1 ≤ zq.length ∧ t.2.length = zq.length ∧ (∀ i, i < zq.length → (t.2.getD i default).2.length ≤ 100000) ∧ ∀ i, i < t.1 → (t.2.getD i default).2 = List.replicate (t.2.getD i default).2.length (mkQ i)) (fun t => zq.length - t.1) (0, zq) rfl ⟨by simp, rfl, bq, fun i hi => by simp at hi⟩ ⟨fun _ hs => hs⟩ ?_
  intro ⟨i, ts⟩ ⟨hi, htl, htb, htm⟩ K1 j hK
  simp only [List.headD_cons] at *
  refine cs (fun h3 => ?_) (fun h3 => ?_)
  · have hg1 : (ts.map (·.1)).getD i default = (ts.getD i default).1 := getD_map' (by omega)
    haveI r1 : ∀ M, Rs (bg uQ ts :: M) (ts.getD i default).1 (cInt .u64) (ts.getD i default).2 := fun M => rs_bg (f := uQ) (l := ts) (i := i) (by omega) (fun M => (inferInstance : Rs (sl (cInt .u64) 30 (ts.getD i default).1 (ts.getD i default).2 :: M) _ _ _)) M
    (repeat (first | refine st ?_ | refine And.intro rfl ?_ | refine sc (by omega) ?_ | refine sc (by simp only [List.length_map, List.length_append, List.length_cons, List.length_nil, List.length_set, List.length_replicate, List.length_singleton] at *; omega) ?_ | refine sc (And.intro (by omega) trivial) ?_ | refine sc (And.intro rfl (Nat.le_of_ble_eq_true rfl)) ?_ | refine sc (And.intro (by simp only [List.length_map, List.length_append, List.length_cons, List.length_nil, List.length_set, List.length_replicate, List.length_singleton] at *; omega) trivial) ?_ | refine sc (by decide) ?_ | refine sc (fun _ => trivial) ?_ | refine And.intro (fun _ => rfl) ?_ | refine sc (fun _ => And.intro (by omega) trivial) ?_))
    rw [hg1]
    (repeat (first | refine st ?_ | refine And.intro rfl ?_ | refine sc (by omega) ?_ | refine sc (by simp only [List.length_map, List.length_append, List.length_cons, List.length_nil, List.length_set, List.length_replicate, List.length_singleton] at *; omega) ?_ | refine sc (And.intro (by omega) trivial) ?_ | refine sc (And.intro rfl (Nat.le_of_ble_eq_true rfl)) ?_ | refine sc (And.intro (by simp only [List.length_map, List.length_append, List.length_cons, List.length_nil, List.length_set, List.length_replicate, List.length_singleton] at *; omega) trivial) ?_ | refine sc (by decide) ?_ | refine sc (fun _ => trivial) ?_ | refine And.intro (fun _ => rfl) ?_ | refine sc (fun _ => And.intro (by omega) trivial) ?_))
    refine markQ_ok (by omega) (by omega) (htb i (by omega)) ?_
    refine hK (i + 1, ts.set i ((ts.getD i default).1, List.replicate (ts.getD i default).2.length (mkQ i))) ⟨by show i + 1 ≤ _; omega, by rw [List.length_set]; exact htl, fun k hk => ?_, fun k hk => ?_⟩ (by show _ - (i + 1) < _; omega)
    · by_cases hik : i = k
      · subst hik
        rw [Go.Dn.getD_set_eq (by omega)]
        simp only [List.length_replicate]
        exact htb i hk
      · rw [Go.Dn.getD_set_ne hik]
        exact htb k hk
    · simp only at hk
      by_cases hik : i = k
      · subst hik
        rw [Go.Dn.getD_set_eq (by omega)]
        simp only [List.length_replicate]
      · rw [Go.Dn.getD_set_ne hik]
        exact htm k (by omega)
  · have hie : i = zq.length := by omega
    subst hie
    clear hK
    (repeat (first | refine st ?_ | refine And.intro rfl ?_ | refine sc (by omega) ?_ | refine sc (by simp only [List.length_map, List.length_append, List.length_cons, List.length_nil, List.length_set, List.length_replicate, List.length_singleton] at *; omega) ?_ | refine sc (And.intro (by omega) trivial) ?_ | refine sc (And.intro rfl (Nat.le_of_ble_eq_true rfl)) ?_ | refine sc (And.intro (by simp only [List.length_map, List.length_append, List.length_cons, List.length_nil, List.length_set, List.length_replicate, List.length_singleton] at *; omega) trivial) ?_ | refine sc (by decide) ?_ | refine sc (fun _ => trivial) ?_ | refine And.intro (fun _ => rfl) ?_ | refine sc (fun _ => And.intro (by omega) trivial) ?_))
    rw [List.length_map]
    unfold nf16_12
    refine inc (M := sl cSl 37 b (zh.map (·.1)) :: bg uH zh :: sl cSl 22 a (ts.map (·.1)) :: bg uQ ts :: F) ?_
    refine ent_loop (γ := Nat × List PL) (fun t => [.int .i64 t.1]) (fun t => sl cSl 37 b (t.2.map (·.1)) :: bg uH t.2 :: sl cSl 22 a (ts.map (·.1)) :: bg uQ ts :: F)
      (fun t => t.1 ≤ zh.length ∧ t.2.length = zh.length ∧ (∀ i, i < zh.length → (t.2.getD i default).2.length ≤ 100000) ∧ ∀ i, i < t.1 → (t.2.getD i default).2 = List.replicate (t.2.getD i default).2.length (mkH i)) (fun t => zh.length - t.1) (0, zh) rfl ⟨by simp, rfl, bh, fun i hi => by simp at hi⟩ ⟨fun _ hs => hs⟩ ?_
    intro ⟨i, us⟩ ⟨hi, hul, hub, hum⟩ K1 j hK
    simp only [List.headD_cons] at *
    refine cs (fun h3 => ?_) (fun h3 => ?_)
    · have hg1 : (us.map (·.1)).getD i default = (us.getD i default).1 := getD_map' (by omega)
      haveI r1 : ∀ M, Rs (bg uH us :: M) (us.getD i default).1 (cInt .i64) (us.getD i default).2 := fun M => rs_bg (f := uH) (l := us) (i := i) (by omega) (fun M => (inferInstance : Rs (sl (cInt .i64) 3 (us.getD i default).1 (us.getD i default).2 :: M) _ _ _)) M
      (repeat (first | refine st ?_ | refine And.intro rfl ?_ | refine sc (by omega) ?_ | refine sc (by simp only [List.length_map, List.length_append, List.length_cons, List.length_nil, List.length_set, List.length_replicate, List.length_singleton] at *; omega) ?_ | refine sc (And.intro (by omega) trivial) ?_ | refine sc (And.intro rfl (Nat.le_of_ble_eq_true rfl)) ?_ | refine sc (And.intro (by simp only [List.length_map, List.length_append, List.length_cons, List.length_nil, List.length_set, List.length_replicate, List.length_singleton] at *; omega) trivial) ?_ | refine sc (by decide) ?_ | refine sc (fun _ => trivial) ?_ | refine And.intro (fun _ => rfl) ?_ | refine sc (fun _ => And.intro (by omega) trivial) ?_))
      rw [hg1]
      (repeat (first | refine st ?_ | refine And.intro rfl ?_ | refine sc (by omega) ?_ | refine sc (by simp only [List.length_map, List.length_append, List.length_cons, List.length_nil, List.length_set, List.length_replicate, List.length_singleton] at *; omega) ?_ | refine sc (And.intro (by omega) trivial) ?_ | refine sc (And.intro rfl (Nat.le_of_ble_eq_true rfl)) ?_ | refine sc (And.intro (by simp only [List.length_map, List.length_append, List.length_cons, List.length_nil, List.length_set, List.length_replicate, List.length_singleton] at *; omega) trivial) ?_ | refine sc (by decide) ?_ | refine sc (fun _ => trivial) ?_ | refine And.intro (fun _ => rfl) ?_ | refine sc (fun _ => And.intro (by omega) trivial) ?_))
      refine markH_ok (by omega) (by omega) (hub i (by omega)) ?_
      refine hK (i + 1, us.set i ((us.getD i default).1, List.replicate (us.getD i default).2.length (mkH i))) ⟨by show i + 1 ≤ _; omega, by rw [List.length_set]; exact hul, fun k hk => ?_, fun k hk => ?_⟩ (by show _ - (i + 1) < _; omega)
      · by_cases hik : i = k
        · subst hik
          rw [Go.Dn.getD_set_eq (by omega)]
          simp only [List.length_replicate]
          exact hub i hk
        · rw [Go.Dn.getD_set_ne hik]
          exact hub k hk
      · simp only at hk
        by_cases hik : i = k
        · subst hik
          rw [Go.Dn.getD_set_eq (by omega)]
          simp only [List.length_replicate]
        · rw [Go.Dn.getD_set_ne hik]
          exact hum k (by omega)
    · have hie : i = zh.length := by omega
      subst hie
      clear hK
      (repeat (first | refine st ?_ | refine And.intro rfl ?_ | refine sc (by omega) ?_ | refine sc (by simp only [List.length_map, List.length_append, List.length_cons, List.length_nil, List.length_set, List.length_replicate, List.length_singleton] at *; omega) ?_ | refine sc (And.intro (by omega) trivial) ?_ | refine sc (And.intro rfl (Nat.le_of_ble_eq_true rfl)) ?_ | refine sc (And.intro (by simp only [List.length_map, List.length_append, List.length_cons, List.length_nil, List.length_set, List.length_replicate, List.length_singleton] at *; omega) trivial) ?_ | refine sc (by decide) ?_ | refine sc (fun _ => trivial) ?_ | refine And.intro (fun _ => rfl) ?_ | refine sc (fun _ => And.intro (by omega) trivial) ?_))
      refine ent_take (A := bg uQ ts) (toQ (fun i hi => htm i (by omega)) ?_)
      refine ent_take (A := bg uH us) (toH (fun i hi => hum i (by omega)) ?_)
      refine inc (M := bg mQ ((List.range ts.length).map (gOf ts)) :: bg mH ((List.range us.length).map (gOf us)) :: sl cSl 22 a (ts.map (·.1)) :: sl cSl 37 b (us.map (·.1)) :: F) ?_
      refine grows_ok (gi_start fun i hi => htb i (by omega)) (gi_start fun i hi => hub i (by omega)) ?_ ?_ (by omega) (by omega) h
      · unfold osOf; rw [List.map_map]; rfl
      · unfold osOf; rw [List.map_map]; rfl
end
end Go.Proofs.Ytipjamgjgijeeaa
