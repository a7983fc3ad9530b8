/- Lists that were handed out: marked, grown, looked at. -/
import Derived.Test.YtipjamgjgijeeaaLa
import Derived.Test.YtipjamgjgijeeaaDnU1
namespace Go.Proofs.Ytipjamgjgijeeaa
set_option linter.unusedSimpArgs false
set_option linter.unusedVariables false
open Go.Dn
set_option linter.unusedSectionVars false
set_option synthInstance.maxSize 10000
set_option synthInstance.maxHeartbeats 400000
set_option maxHeartbeats 2000000
variable [sd : Side]
section
variable {F : List HProp} {φ : W}
abbrev PL := Sl × List Int
/-- A list's mark, its first slice, and all that were grown of it. -/
structure GM where
  o : Sl × Nat
  i : Nat
  vs : List (Sl × Nat)
instance : Inhabited GM := ⟨⟨(Sl.nil, 0), 0, []⟩⟩
structure GI (N : Nat) (gs : List GM) (os : List (Sl × Nat)) (lq : List (Sl × Nat)) : Prop where
  len : gs.length = N
  ol : os.length = N
  i : ∀ i, i < N → (gs.getD i default).i = i
  o : ∀ i, i < N → os.getD i default ∈ (gs.getD i default).vs
  mem : ∀ j, j < lq.length → lq.getD j default ∈ (gs.getD (j % N) default).vs
  sz : ∀ x ∈ os, x.2 ≤ 100000
  sz2 : ∀ x ∈ lq, x.2 ≤ 200000
abbrev mkQ (i : Nat) : Int := 1000 + (i : Int)
def uQ (x : PL) : HProp := sl (cInt .u64) 30 x.1 x.2
def mQ (g : GM) : HProp := mrk .u64 30 (mkQ g.i) g.vs
theorem markQ_ok {a : Sl} {i : Nat} {zs : List PL} {K : List Value → W} (hi : i < zs.length) (hi2 : i ≤ 100000) (hl : (zs.getD i default).2.length ≤ 100000)
    (h : Ent (sl cSl 22 a ((zs.set i ((zs.getD i default).1, List.replicate (zs.getD i default).2.length (mkQ i))).map (·.1)) :: bg uQ (zs.set i ((zs.getD i default).1, List.replicate (zs.getD i default).2.length (mkQ i))) :: F) (K [.int .i64 (i + 1 : Nat)])) :
    Ent (sl cSl 22 a (zs.map (·.1)) :: bg uQ zs :: F) (nf16_1 K (sv a) (.int .i64 (zs.getD i default).2.length) (.int .i64 i)) := by
  unfold nf16_1
  have hg1 : (zs.map (·.1)).getD i default = (zs.getD i default).1 := getD_map' hi
  refine ent_swap (bg_at hi ?_)
  show Ent (sl (cInt .u64) 30 (zs.getD i default).1 (zs.getD i default).2 :: _) _
  generalize hgl : (zs.getD i default).2 = l at *
  refine ent_loop1 (γ := Nat × List Int) (fun t => [.int .i64 t.1]) (fun t => sl (cInt .u64) 30 (zs.getD i default).1 t.2) (fun t => t.1 ≤ l.length ∧ t.2.length = l.length ∧ t.2.take t.1 = List.replicate t.1 (mkQ i)) (fun t => l.length - t.1) (0, l) rfl ⟨by simp, rfl, by simp⟩ ?_
  intro ⟨k, t⟩ ⟨hk, ht, hr⟩ K1 j hK
  simp only [List.headD_cons] at *
  refine cs (fun h1 => ?_) (fun h1 => ?_)
  · (repeat (first | refine st ?_ | refine And.intro rfl ?_ | refine sc (by omega) ?_ | refine sc (by simp only [List.length_map, List.length_append, List.length_cons, List.length_nil, List.length_set, List.length_replicate, List.length_singleton] at *; omega) ?_ | refine sc (And.intro (by omega) trivial) ?_ | refine sc (And.intro rfl (Nat.le_of_ble_eq_true rfl)) ?_ | refine sc (And.intro (by simp only [List.length_map, List.length_append, List.length_cons, List.length_nil, List.length_set, List.length_replicate, List.length_singleton] at *; omega) trivial) ?_ | refine sc (by decide) ?_ | refine sc (fun _ => trivial) ?_ | refine And.intro (fun _ => rfl) ?_ | refine sc (fun _ => And.intro (by omega) trivial) ?_))
    rw [hg1]
    (repeat (first | refine st ?_ | refine And.intro rfl ?_ | refine sc (by omega) ?_ | refine sc (by simp only [List.length_map, List.length_append, List.length_cons, List.length_nil, List.length_set, List.length_replicate, List.length_singleton] at *; omega) ?_ | refine sc (And.intro (by omega) trivial) ?_ | refine sc (And.intro rfl (Nat.le_of_ble_eq_true rfl)) ?_ | refine sc (And.intro (by simp only [List.length_map, List.length_append, List.length_cons, List.length_nil, List.length_set, List.length_replicate, List.length_singleton] at *; omega) trivial) ?_ | refine sc (by decide) ?_ | refine sc (fun _ => trivial) ?_ | refine And.intro (fun _ => rfl) ?_ | refine sc (fun _ => And.intro (by omega) trivial) ?_))
    exact hK (k + 1, t.set k (mkQ i)) ⟨by show k + 1 ≤ _; omega, by rw [List.length_set]; exact ht, take_set_rep hr (by omega)⟩ (by show _ - (k + 1) < _; omega)
  · have hkl : k = l.length := by omega
    subst hkl
    rw [← ht, List.take_length, ht] at hr
    subst hr
    (repeat (first | refine st ?_ | refine And.intro rfl ?_ | refine sc (by omega) ?_ | refine sc (by simp only [List.length_map, List.length_append, List.length_cons, List.length_nil, List.length_set, List.length_replicate, List.length_singleton] at *; omega) ?_ | refine sc (And.intro (by omega) trivial) ?_ | refine sc (And.intro rfl (Nat.le_of_ble_eq_true rfl)) ?_ | refine sc (And.intro (by simp only [List.length_map, List.length_append, List.length_cons, List.length_nil, List.length_set, List.length_replicate, List.length_singleton] at *; omega) trivial) ?_ | refine sc (by decide) ?_ | refine sc (fun _ => trivial) ?_ | refine And.intro (fun _ => rfl) ?_ | refine sc (fun _ => And.intro (by omega) trivial) ?_))
    rw [List.map_set, show (zs.getD i default).1 = (zs.map (·.1)).getD i default from hg1.symm, set_self] at h
    rw [hg1] at h
    refine ent_take (A := sl (cInt .u64) 30 (zs.getD i default).1 (List.replicate l.length (mkQ i))) (bg_put (f := uQ) (i := i) (x := ((zs.getD i default).1, List.replicate l.length (mkQ i))) hi ?_)
    exact inc h
theorem GI.growQ {N : Nat} {gs : List GM} {os lq : List (Sl × Nat)} (h : GI N gs os lq) {i : Nat} (hi : i < N) {vs : List (Sl × Nat)} (hv : ∀ x ∈ (gs.getD i default).vs, x ∈ vs) : GI N (gs.set i ⟨(gs.getD i default).o, i, vs⟩) os lq := by
  have hlen := h.len
  have key : ∀ j x, x ∈ (gs.getD j default).vs → x ∈ ((gs.set i ⟨(gs.getD i default).o, i, vs⟩).getD j default).vs := fun j x hx => by
    by_cases hj : i = j
    · subst hj
      rw [Go.Dn.getD_set_eq (by omega)]; exact hv x hx
    · rw [Go.Dn.getD_set_ne hj]; exact hx
  refine ⟨by rw [List.length_set]; exact h.len, h.ol, fun j hj => ?_, fun j hj => key j _ (h.o j hj), fun j hj => key _ _ (h.mem j hj), h.sz, h.sz2⟩
  by_cases hij : i = j
  · subst hij; rw [Go.Dn.getD_set_eq (by omega)]
  · rw [Go.Dn.getD_set_ne hij]; exact h.i j hj
theorem growQ_ok {i k N : Nat} {lg : Sl} {gs : List GM} {os lq : List (Sl × Nat)} {K : List Value → W} (hG : GI N gs os lq) (hi : i < N) (hk : k ≤ 16) (hN : N ≤ 100000) (hL : lq.length ≤ 2000000) (hm : lq.length % N = i)
    (h : ∀ lg' gs' lq', GI N gs' os lq' → lq'.length = lq.length + 1 → Ent (bg mQ gs' :: sl cSl 22 lg' (lq'.map (·.1)) :: F) (K [sv lg', .int .i64 (i + 1 : Nat)])) :
    Ent (bg mQ gs :: sl cSl 22 lg (lq.map (·.1)) :: F) (nf16_3 K (sv (os.getD i default).1) (.int .i64 k) (sv lg) (.int .i64 i)) := by
  unfold nf16_3
  have hsz := hG.sz _ (getD_mem (show i < os.length by rw [hG.ol]; exact hi))
  have hgl := hG.len
  refine ent_loop (γ := Sl × Nat × List GM) (fun t => [sv t.1, .int .i64 t.2.1]) (fun t => bg mQ t.2.2 :: sl cSl 22 lg (lq.map (·.1)) :: F)
    (fun t => t.2.1 ≤ 60 ∧ GI N t.2.2 os lq ∧ (t.1, (os.getD i default).2 + t.2.1) ∈ (t.2.2.getD i default).vs) (fun t => 60 - t.2.1) ((os.getD i default).1, 0, gs) rfl ⟨by simp, hG, hG.o i hi⟩ ⟨fun _ hs => hs⟩ ?_
  intro ⟨s, j, gs⟩ ⟨hj, hG, hmem⟩ K1 e hK
  simp only [List.headD_cons, List.tail_cons] at *
  have hgl := hG.len
  have more : j < 60 → ∀ s2, Ent (sl (cInt .u64) 30 s2 [1000 + (i : Int)] :: bg mQ gs :: sl cSl 22 lg (lq.map (·.1)) :: F) (ef Try.prog (Builtin.append_ #[22, 22] 22 [sv s, sv s2].toArray) (fun v62 => pu Try.prog (binOp .add 3 (.int .i64 j) (.int .i64 1)) (fun v63 => K1 [v62, v63]))) := by
    intro hj60 s2
    refine ent_take (A := bg mQ gs) (bg_at (i := i) (by omega) ?_)
    show Ent (mrk .u64 30 (mkQ (gs.getD i default).i) (gs.getD i default).vs :: _) _
    rw [hG.i i hi]
    refine mrk_append hmem (by omega) fun s3 => ?_
    (repeat (first | refine st ?_ | refine And.intro rfl ?_ | refine sc (by omega) ?_ | refine sc (by simp only [List.length_map, List.length_append, List.length_cons, List.length_nil, List.length_set, List.length_replicate, List.length_singleton] at *; omega) ?_ | refine sc (And.intro (by omega) trivial) ?_ | refine sc (And.intro rfl (Nat.le_of_ble_eq_true rfl)) ?_ | refine sc (And.intro (by simp only [List.length_map, List.length_append, List.length_cons, List.length_nil, List.length_set, List.length_replicate, List.length_singleton] at *; omega) trivial) ?_ | refine sc (by decide) ?_ | refine sc (fun _ => trivial) ?_ | refine And.intro (fun _ => rfl) ?_ | refine sc (fun _ => And.intro (by omega) trivial) ?_))
    refine bg_put (f := mQ) (i := i) (x := ⟨(gs.getD i default).o, i, (gs.getD i default).vs ++ [(s3, (os.getD i default).2 + j + 1)]⟩) (by omega) ?_
    refine inc (hK (s3, j + 1, gs.set i ⟨(gs.getD i default).o, i, (gs.getD i default).vs ++ [(s3, (os.getD i default).2 + j + 1)]⟩) ⟨by show j + 1 ≤ 60; omega, hG.growQ hi (fun x hx => List.mem_append_left _ hx), ?_⟩ (by show 60 - (j + 1) < 60 - j; omega))
    rw [Go.Dn.getD_set_eq (by omega)]
    exact List.mem_append_right _ (by simp [Nat.add_assoc])
  have done : ∀ s2, Ent (sl cSl 22 s2 [s] :: bg mQ gs :: sl cSl 22 lg (lq.map (·.1)) :: F) (ef Try.prog (Builtin.append_ #[35, 35] 35 [sv lg, sv s2].toArray) (fun v65 => pu Try.prog (binOp .add 3 (.int .i64 i) (.int .i64 1)) (fun v66 => K [v65, v66]))) := by
    intro s2
    (repeat (first | refine st ?_ | refine And.intro rfl ?_ | refine sc (by omega) ?_ | refine sc (by simp only [List.length_map, List.length_append, List.length_cons, List.length_nil, List.length_set, List.length_replicate, List.length_singleton] at *; omega) ?_ | refine sc (And.intro (by omega) trivial) ?_ | refine sc (And.intro rfl (Nat.le_of_ble_eq_true rfl)) ?_ | refine sc (And.intro (by simp only [List.length_map, List.length_append, List.length_cons, List.length_nil, List.length_set, List.length_replicate, List.length_singleton] at *; omega) trivial) ?_ | refine sc (by decide) ?_ | refine sc (fun _ => trivial) ?_ | refine And.intro (fun _ => rfl) ?_ | refine sc (fun _ => And.intro (by omega) trivial) ?_))
    intro s3
    (repeat (first | refine st ?_ | refine And.intro rfl ?_ | refine sc (by omega) ?_ | refine sc (by simp only [List.length_map, List.length_append, List.length_cons, List.length_nil, List.length_set, List.length_replicate, List.length_singleton] at *; omega) ?_ | refine sc (And.intro (by omega) trivial) ?_ | refine sc (And.intro rfl (Nat.le_of_ble_eq_true rfl)) ?_ | refine sc (And.intro (by simp only [List.length_map, List.length_append, List.length_cons, List.length_nil, List.length_set, List.length_replicate, List.length_singleton] at *; omega) trivial) ?_ | refine sc (by decide) ?_ | refine sc (fun _ => trivial) ?_ | refine And.intro (fun _ => rfl) ?_ | refine sc (fun _ => And.intro (by omega) trivial) ?_))
    have h9 := h s3 gs (lq ++ [(s, (os.getD i default).2 + j)]) ⟨hG.len, hG.ol, hG.i, hG.o, fun q hq => ?_, hG.sz, fun x hx => ?_⟩ (by rw [List.length_append]; rfl)
    · simp only [List.map_append, List.map_cons, List.map_nil] at h9
      exact inc h9
    · rw [List.length_append, List.length_singleton] at hq
      by_cases hql : q < lq.length
      · rw [getD_app_l hql]; exact hG.mem q hql
      · have : q = lq.length := by omega
        subst this
        rw [getD_app_r (Nat.le_refl _), Nat.sub_self, hm]
        exact hmem
    · rcases List.mem_append.1 hx with hx | hx
      · exact hG.sz2 x hx
      · rw [List.mem_singleton.1 hx]; show (os.getD i default).2 + j ≤ 200000; omega
  refine cs (fun h1 => ?_) (fun h1 => ?_)
  · (repeat (first | refine st ?_ | refine And.intro rfl ?_ | refine sc (by omega) ?_ | refine sc (by simp only [List.length_map, List.length_append, List.length_cons, List.length_nil, List.length_set, List.length_replicate, List.length_singleton] at *; omega) ?_ | refine sc (And.intro (by omega) trivial) ?_ | refine sc (And.intro rfl (Nat.le_of_ble_eq_true rfl)) ?_ | refine sc (And.intro (by simp only [List.length_map, List.length_append, List.length_cons, List.length_nil, List.length_set, List.length_replicate, List.length_singleton] at *; omega) trivial) ?_ | refine sc (by decide) ?_ | refine sc (fun _ => trivial) ?_ | refine And.intro (fun _ => rfl) ?_ | refine sc (fun _ => And.intro (by omega) trivial) ?_))
    exact more (by omega)
  · (repeat (first | refine st ?_ | refine And.intro rfl ?_ | refine sc (by omega) ?_ | refine sc (by simp only [List.length_map, List.length_append, List.length_cons, List.length_nil, List.length_set, List.length_replicate, List.length_singleton] at *; omega) ?_ | refine sc (And.intro (by omega) trivial) ?_ | refine sc (And.intro rfl (Nat.le_of_ble_eq_true rfl)) ?_ | refine sc (And.intro (by simp only [List.length_map, List.length_append, List.length_cons, List.length_nil, List.length_set, List.length_replicate, List.length_singleton] at *; omega) trivial) ?_ | refine sc (by decide) ?_ | refine sc (fun _ => trivial) ?_ | refine And.intro (fun _ => rfl) ?_ | refine sc (fun _ => And.intro (by omega) trivial) ?_))
    refine cs (fun h2 => ?_) (fun h2 => ?_)
    · (repeat (first | refine st ?_ | refine And.intro rfl ?_ | refine sc (by omega) ?_ | refine sc (by simp only [List.length_map, List.length_append, List.length_cons, List.length_nil, List.length_set, List.length_replicate, List.length_singleton] at *; omega) ?_ | refine sc (And.intro (by omega) trivial) ?_ | refine sc (And.intro rfl (Nat.le_of_ble_eq_true rfl)) ?_ | refine sc (And.intro (by simp only [List.length_map, List.length_append, List.length_cons, List.length_nil, List.length_set, List.length_replicate, List.length_singleton] at *; omega) trivial) ?_ | refine sc (by decide) ?_ | refine sc (fun _ => trivial) ?_ | refine And.intro (fun _ => rfl) ?_ | refine sc (fun _ => And.intro (by omega) trivial) ?_))
      refine cs (fun h3 => ?_) (fun h3 => ?_)
      · (repeat (first | refine st ?_ | refine And.intro rfl ?_ | refine sc (by omega) ?_ | refine sc (by simp only [List.length_map, List.length_append, List.length_cons, List.length_nil, List.length_set, List.length_replicate, List.length_singleton] at *; omega) ?_ | refine sc (And.intro (by omega) trivial) ?_ | refine sc (And.intro rfl (Nat.le_of_ble_eq_true rfl)) ?_ | refine sc (And.intro (by simp only [List.length_map, List.length_append, List.length_cons, List.length_nil, List.length_set, List.length_replicate, List.length_singleton] at *; omega) trivial) ?_ | refine sc (by decide) ?_ | refine sc (fun _ => trivial) ?_ | refine And.intro (fun _ => rfl) ?_ | refine sc (fun _ => And.intro (by omega) trivial) ?_))
        exact more (by omega)
      · (repeat (first | refine st ?_ | refine And.intro rfl ?_ | refine sc (by omega) ?_ | refine sc (by simp only [List.length_map, List.length_append, List.length_cons, List.length_nil, List.length_set, List.length_replicate, List.length_singleton] at *; omega) ?_ | refine sc (And.intro (by omega) trivial) ?_ | refine sc (And.intro rfl (Nat.le_of_ble_eq_true rfl)) ?_ | refine sc (And.intro (by simp only [List.length_map, List.length_append, List.length_cons, List.length_nil, List.length_set, List.length_replicate, List.length_singleton] at *; omega) trivial) ?_ | refine sc (by decide) ?_ | refine sc (fun _ => trivial) ?_ | refine And.intro (fun _ => rfl) ?_ | refine sc (fun _ => And.intro (by omega) trivial) ?_))
        exact done
    · (repeat (first | refine st ?_ | refine And.intro rfl ?_ | refine sc (by omega) ?_ | refine sc (by simp only [List.length_map, List.length_append, List.length_cons, List.length_nil, List.length_set, List.length_replicate, List.length_singleton] at *; omega) ?_ | refine sc (And.intro (by omega) trivial) ?_ | refine sc (And.intro rfl (Nat.le_of_ble_eq_true rfl)) ?_ | refine sc (And.intro (by simp only [List.length_map, List.length_append, List.length_cons, List.length_nil, List.length_set, List.length_replicate, List.length_singleton] at *; omega) trivial) ?_ | refine sc (by decide) ?_ | refine sc (fun _ => trivial) ?_ | refine And.intro (fun _ => rfl) ?_ | refine sc (fun _ => And.intro (by omega) trivial) ?_))
      exact done
theorem lookQ_ok {q N : Nat} {a lg : Sl} {gs : List GM} {os lq : List (Sl × Nat)} {as_ : List Sl} {K : List Value → W} {R : Value → W} (hG : GI N gs os lq) (hN : 0 < N) (hN2 : N ≤ 100000) (ha : as_.length = N) (hq : q < lq.length) (hq2 : q ≤ 2000000)
    (h : Ent (bg mQ gs :: sl cSl 22 a as_ :: sl cSl 22 lg (lq.map (·.1)) :: F) (K [.int .i64 (q + 1 : Nat)])) :
    Ent (bg mQ gs :: sl cSl 22 a as_ :: sl cSl 22 lg (lq.map (·.1)) :: F) (nf16_7 K R (sv a) (.int .i64 (lq.getD q default).2) (sv lg) (.int .i64 q)) := by
  unfold nf16_7
  have hqi : q % N < N := Nat.mod_lt _ hN
  have hgl := hG.len
  have hmem := hG.mem q hq
  have hsz := hG.sz2 _ (getD_mem hq)
  have g1 : (lq.map (·.1)).getD q default = (lq.getD q default).1 := getD_map' hq
  haveI r1 : ∀ M, Rs (bg mQ gs :: M) (lq.getD q default).1 (cInt .u64) (List.replicate (lq.getD q default).2 (mkQ (q % N))) := fun M => by
    have := rs_bg (f := mQ) (l := gs) (i := q % N) (by omega) (s := (lq.getD q default).1) (c := cInt .u64) (xs := List.replicate (lq.getD q default).2 (mkQ (gs.getD (q % N) default).i)) (fun M => mrk_rs hmem M) M
    rw [hG.i _ hqi] at this
    exact this
  have hmod : ((q : Int)).tmod (N : Int) = ((q % N : Nat) : Int) := by rw [Int.tmod_eq_emod_of_nonneg (by omega)]; omega
  refine ent_loop0 (γ := Nat) (fun k => [.int .i64 k]) (fun k => k ≤ (lq.getD q default).2) (fun k => (lq.getD q default).2 - k) 0 rfl (by omega) ?_
  intro k hk K1 j hK
  simp only [List.headD_cons] at *
  refine cs (fun h1 => ?_) (fun h1 => ?_)
  · (repeat (first | refine st ?_ | refine And.intro rfl ?_ | refine sc (by omega) ?_ | refine sc (by simp only [List.length_map, List.length_append, List.length_cons, List.length_nil, List.length_set, List.length_replicate, List.length_singleton] at *; omega) ?_ | refine sc (And.intro (by omega) trivial) ?_ | refine sc (And.intro rfl (Nat.le_of_ble_eq_true rfl)) ?_ | refine sc (And.intro (by simp only [List.length_map, List.length_append, List.length_cons, List.length_nil, List.length_set, List.length_replicate, List.length_singleton] at *; omega) trivial) ?_ | refine sc (by decide) ?_ | refine sc (fun _ => trivial) ?_ | refine And.intro (fun _ => rfl) ?_ | refine sc (fun _ => And.intro (by omega) trivial) ?_))
    rw [g1]
    (repeat (first | refine st ?_ | refine And.intro rfl ?_ | refine sc (by omega) ?_ | refine sc (by simp only [List.length_map, List.length_append, List.length_cons, List.length_nil, List.length_set, List.length_replicate, List.length_singleton] at *; omega) ?_ | refine sc (And.intro (by omega) trivial) ?_ | refine sc (And.intro rfl (Nat.le_of_ble_eq_true rfl)) ?_ | refine sc (And.intro (by simp only [List.length_map, List.length_append, List.length_cons, List.length_nil, List.length_set, List.length_replicate, List.length_singleton] at *; omega) trivial) ?_ | refine sc (by decide) ?_ | refine sc (fun _ => trivial) ?_ | refine And.intro (fun _ => rfl) ?_ | refine sc (fun _ => And.intro (by omega) trivial) ?_))
    rw [getD_rep (by omega), ha]
    (repeat (first | refine st ?_ | refine And.intro rfl ?_ | refine sc (by omega) ?_ | refine sc (by simp only [List.length_map, List.length_append, List.length_cons, List.length_nil, List.length_set, List.length_replicate, List.length_singleton] at *; omega) ?_ | refine sc (And.intro (by omega) trivial) ?_ | refine sc (And.intro rfl (Nat.le_of_ble_eq_true rfl)) ?_ | refine sc (And.intro (by simp only [List.length_map, List.length_append, List.length_cons, List.length_nil, List.length_set, List.length_replicate, List.length_singleton] at *; omega) trivial) ?_ | refine sc (by decide) ?_ | refine sc (fun _ => trivial) ?_ | refine And.intro (fun _ => rfl) ?_ | refine sc (fun _ => And.intro (by omega) trivial) ?_))
    rw [hmod]
    (repeat (first | refine st ?_ | refine And.intro rfl ?_ | refine sc (by omega) ?_ | refine sc (by simp only [List.length_map, List.length_append, List.length_cons, List.length_nil, List.length_set, List.length_replicate, List.length_singleton] at *; omega) ?_ | refine sc (And.intro (by omega) trivial) ?_ | refine sc (And.intro rfl (Nat.le_of_ble_eq_true rfl)) ?_ | refine sc (And.intro (by simp only [List.length_map, List.length_append, List.length_cons, List.length_nil, List.length_set, List.length_replicate, List.length_singleton] at *; omega) trivial) ?_ | refine sc (by decide) ?_ | refine sc (fun _ => trivial) ?_ | refine And.intro (fun _ => rfl) ?_ | refine sc (fun _ => And.intro (by omega) trivial) ?_))
    refine ct rfl ?_
    (repeat (first | refine st ?_ | refine And.intro rfl ?_ | refine sc (by omega) ?_ | refine sc (by simp only [List.length_map, List.length_append, List.length_cons, List.length_nil, List.length_set, List.length_replicate, List.length_singleton] at *; omega) ?_ | refine sc (And.intro (by omega) trivial) ?_ | refine sc (And.intro rfl (Nat.le_of_ble_eq_true rfl)) ?_ | refine sc (And.intro (by simp only [List.length_map, List.length_append, List.length_cons, List.length_nil, List.length_set, List.length_replicate, List.length_singleton] at *; omega) trivial) ?_ | refine sc (by decide) ?_ | refine sc (fun _ => trivial) ?_ | refine And.intro (fun _ => rfl) ?_ | refine sc (fun _ => And.intro (by omega) trivial) ?_))
    exact hK (k + 1) (by omega) (by omega)
  · (repeat (first | refine st ?_ | refine And.intro rfl ?_ | refine sc (by omega) ?_ | refine sc (by simp only [List.length_map, List.length_append, List.length_cons, List.length_nil, List.length_set, List.length_replicate, List.length_singleton] at *; omega) ?_ | refine sc (And.intro (by omega) trivial) ?_ | refine sc (And.intro rfl (Nat.le_of_ble_eq_true rfl)) ?_ | refine sc (And.intro (by simp only [List.length_map, List.length_append, List.length_cons, List.length_nil, List.length_set, List.length_replicate, List.length_singleton] at *; omega) trivial) ?_ | refine sc (by decide) ?_ | refine sc (fun _ => trivial) ?_ | refine And.intro (fun _ => rfl) ?_ | refine sc (fun _ => And.intro (by omega) trivial) ?_))
    exact h
abbrev mkH (i : Nat) : Int := 2000 + (i : Int)
def uH (x : PL) : HProp := sl (cInt .i64) 3 x.1 x.2
def mH (g : GM) : HProp := mrk .i64 3 (mkH g.i) g.vs
theorem markH_ok {a : Sl} {i : Nat} {zs : List PL} {K : List Value → W} (hi : i < zs.length) (hi2 : i ≤ 100000) (hl : (zs.getD i default).2.length ≤ 100000)
    (h : Ent (sl cSl 37 a ((zs.set i ((zs.getD i default).1, List.replicate (zs.getD i default).2.length (mkH i))).map (·.1)) :: bg uH (zs.set i ((zs.getD i default).1, List.replicate (zs.getD i default).2.length (mkH i))) :: F) (K [.int .i64 (i + 1 : Nat)])) :
    Ent (sl cSl 37 a (zs.map (·.1)) :: bg uH zs :: F) (nf16_2 K (sv a) (.int .i64 (zs.getD i default).2.length) (.int .i64 i)) := by
  unfold nf16_2
  have hg1 : (zs.map (·.1)).getD i default = (zs.getD i default).1 := getD_map' hi
  refine ent_swap (bg_at hi ?_)
  show Ent (sl (cInt .i64) 3 (zs.getD i default).1 (zs.getD i default).2 :: _) _
  generalize hgl : (zs.getD i default).2 = l at *
  refine ent_loop1 (γ := Nat × List Int) (fun t => [.int .i64 t.1]) (fun t => sl (cInt .i64) 3 (zs.getD i default).1 t.2) (fun t => t.1 ≤ l.length ∧ t.2.length = l.length ∧ t.2.take t.1 = List.replicate t.1 (mkH i)) (fun t => l.length - t.1) (0, l) rfl ⟨by simp, rfl, by simp⟩ ?_
  intro ⟨k, t⟩ ⟨hk, ht, hr⟩ K1 j hK
  simp only [List.headD_cons] at *
  refine cs (fun h1 => ?_) (fun h1 => ?_)
  · (repeat (first | refine st ?_ | refine And.intro rfl ?_ | refine sc (by omega) ?_ | refine sc (by simp only [List.length_map, List.length_append, List.length_cons, List.length_nil, List.length_set, List.length_replicate, List.length_singleton] at *; omega) ?_ | refine sc (And.intro (by omega) trivial) ?_ | refine sc (And.intro rfl (Nat.le_of_ble_eq_true rfl)) ?_ | refine sc (And.intro (by simp only [List.length_map, List.length_append, List.length_cons, List.length_nil, List.length_set, List.length_replicate, List.length_singleton] at *; omega) trivial) ?_ | refine sc (by decide) ?_ | refine sc (fun _ => trivial) ?_ | refine And.intro (fun _ => rfl) ?_ | refine sc (fun _ => And.intro (by omega) trivial) ?_))
    rw [hg1]
    (repeat (first | refine st ?_ | refine And.intro rfl ?_ | refine sc (by omega) ?_ | refine sc (by simp only [List.length_map, List.length_append, List.length_cons, List.length_nil, List.length_set, List.length_replicate, List.length_singleton] at *; omega) ?_ | refine sc (And.intro (by omega) trivial) ?_ | refine sc (And.intro rfl (Nat.le_of_ble_eq_true rfl)) ?_ | refine sc (And.intro (by simp only [List.length_map, List.length_append, List.length_cons, List.length_nil, List.length_set, List.length_replicate, List.length_singleton] at *; omega) trivial) ?_ | refine sc (by decide) ?_ | refine sc (fun _ => trivial) ?_ | refine And.intro (fun _ => rfl) ?_ | refine sc (fun _ => And.intro (by omega) trivial) ?_))
    exact hK (k + 1, t.set k (mkH i)) ⟨by show k + 1 ≤ _; omega, by rw [List.length_set]; exact ht, take_set_rep hr (by omega)⟩ (by show _ - (k + 1) < _; omega)
  · have hkl : k = l.length := by omega
    subst hkl
    rw [← ht, List.take_length, ht] at hr
    subst hr
    (repeat (first | refine st ?_ | refine And.intro rfl ?_ | refine sc (by omega) ?_ | refine sc (by simp only [List.length_map, List.length_append, List.length_cons, List.length_nil, List.length_set, List.length_replicate, List.length_singleton] at *; omega) ?_ | refine sc (And.intro (by omega) trivial) ?_ | refine sc (And.intro rfl (Nat.le_of_ble_eq_true rfl)) ?_ | refine sc (And.intro (by simp only [List.length_map, List.length_append, List.length_cons, List.length_nil, List.length_set, List.length_replicate, List.length_singleton] at *; omega) trivial) ?_ | refine sc (by decide) ?_ | refine sc (fun _ => trivial) ?_ | refine And.intro (fun _ => rfl) ?_ | refine sc (fun _ => And.intro (by omega) trivial) ?_))
    rw [List.map_set, show (zs.getD i default).1 = (zs.map (·.1)).getD i default from hg1.symm, set_self] at h
    rw [hg1] at h
    refine ent_take (A := sl (cInt .i64) 3 (zs.getD i default).1 (List.replicate l.length (mkH i))) (bg_put (f := uH) (i := i) (x := ((zs.getD i default).1, List.replicate l.length (mkH i))) hi ?_)
    exact inc h
theorem GI.growH {N : Nat} {gs : List GM} {os lq : List (Sl × Nat)} (h : GI N gs os lq) {i : Nat} (hi : i < N) {vs : List (Sl × Nat)} (hv : ∀ x ∈ (gs.getD i default).vs, x ∈ vs) : GI N (gs.set i ⟨(gs.getD i default).o, i, vs⟩) os lq := by
  have hlen := h.len
  have key : ∀ j x, x ∈ (gs.getD j default).vs → x ∈ ((gs.set i ⟨(gs.getD i default).o, i, vs⟩).getD j default).vs := fun j x hx => by
    by_cases hj : i = j
    · subst hj
      rw [Go.Dn.getD_set_eq (by omega)]; exact hv x hx
    · rw [Go.Dn.getD_set_ne hj]; exact hx
  refine ⟨by rw [List.length_set]; exact h.len, h.ol, fun j hj => ?_, fun j hj => key j _ (h.o j hj), fun j hj => key _ _ (h.mem j hj), h.sz, h.sz2⟩
  by_cases hij : i = j
  · subst hij; rw [Go.Dn.getD_set_eq (by omega)]
  · rw [Go.Dn.getD_set_ne hij]; exact h.i j hj
theorem growH_ok {i k N : Nat} {lg : Sl} {gs : List GM} {os lq : List (Sl × Nat)} {K : List Value → W} (hG : GI N gs os lq) (hi : i < N) (hk : k ≤ 16) (hN : N ≤ 100000) (hL : lq.length ≤ 2000000) (hm : lq.length % N = i)
    (h : ∀ lg' gs' lq', GI N gs' os lq' → lq'.length = lq.length + 1 → Ent (bg mH gs' :: sl cSl 37 lg' (lq'.map (·.1)) :: F) (K [sv lg', .int .i64 (i + 1 : Nat)])) :
    Ent (bg mH gs :: sl cSl 37 lg (lq.map (·.1)) :: F) (nf16_4 K (sv (os.getD i default).1) (.int .i64 k) (sv lg) (.int .i64 i)) := by
  unfold nf16_4
  have hsz := hG.sz _ (getD_mem (show i < os.length by rw [hG.ol]; exact hi))
  have hgl := hG.len
  refine ent_loop (γ := Sl × Nat × List GM) (fun t => [sv t.1, .int .i64 t.2.1]) (fun t => bg mH t.2.2 :: sl cSl 37 lg (lq.map (·.1)) :: F)
    (fun t => t.2.1 ≤ 60 ∧ GI N t.2.2 os lq ∧ (t.1, (os.getD i default).2 + t.2.1) ∈ (t.2.2.getD i default).vs) (fun t => 60 - t.2.1) ((os.getD i default).1, 0, gs) rfl ⟨by simp, hG, hG.o i hi⟩ ⟨fun _ hs => hs⟩ ?_
  intro ⟨s, j, gs⟩ ⟨hj, hG, hmem⟩ K1 e hK
  simp only [List.headD_cons, List.tail_cons] at *
  have hgl := hG.len
  have more : j < 60 → ∀ s2, Ent (sl (cInt .i64) 3 s2 [2000 + (i : Int)] :: bg mH gs :: sl cSl 37 lg (lq.map (·.1)) :: F) (ef Try.prog (Builtin.append_ #[37, 37] 37 [sv s, sv s2].toArray) (fun v62 => pu Try.prog (binOp .add 3 (.int .i64 j) (.int .i64 1)) (fun v63 => K1 [v62, v63]))) := by
    intro hj60 s2
    refine ent_take (A := bg mH gs) (bg_at (i := i) (by omega) ?_)
    show Ent (mrk .i64 3 (mkH (gs.getD i default).i) (gs.getD i default).vs :: _) _
    rw [hG.i i hi]
    refine mrk_append hmem (by omega) fun s3 => ?_
    (repeat (first | refine st ?_ | refine And.intro rfl ?_ | refine sc (by omega) ?_ | refine sc (by simp only [List.length_map, List.length_append, List.length_cons, List.length_nil, List.length_set, List.length_replicate, List.length_singleton] at *; omega) ?_ | refine sc (And.intro (by omega) trivial) ?_ | refine sc (And.intro rfl (Nat.le_of_ble_eq_true rfl)) ?_ | refine sc (And.intro (by simp only [List.length_map, List.length_append, List.length_cons, List.length_nil, List.length_set, List.length_replicate, List.length_singleton] at *; omega) trivial) ?_ | refine sc (by decide) ?_ | refine sc (fun _ => trivial) ?_ | refine And.intro (fun _ => rfl) ?_ | refine sc (fun _ => And.intro (by omega) trivial) ?_))
    refine bg_put (f := mH) (i := i) (x := ⟨(gs.getD i default).o, i, (gs.getD i default).vs ++ [(s3, (os.getD i default).2 + j + 1)]⟩) (by omega) ?_
    refine inc (hK (s3, j + 1, gs.set i ⟨(gs.getD i default).o, i, (gs.getD i default).vs ++ [(s3, (os.getD i default).2 + j + 1)]⟩) ⟨by show j + 1 ≤ 60; omega, hG.growH hi (fun x hx => List.mem_append_left _ hx), ?_⟩ (by show 60 - (j + 1) < 60 - j; omega))
    rw [Go.Dn.getD_set_eq (by omega)]
    exact List.mem_append_right _ (by simp [Nat.add_assoc])
  have done : ∀ s2, Ent (sl cSl 37 s2 [s] :: bg mH gs :: sl cSl 37 lg (lq.map (·.1)) :: F) (ef Try.prog (Builtin.append_ #[25, 25] 25 [sv lg, sv s2].toArray) (fun v65 => pu Try.prog (binOp .add 3 (.int .i64 i) (.int .i64 1)) (fun v66 => K [v65, v66]))) := by
    intro s2
    (repeat (first | refine st ?_ | refine And.intro rfl ?_ | refine sc (by omega) ?_ | refine sc (by simp only [List.length_map, List.length_append, List.length_cons, List.length_nil, List.length_set, List.length_replicate, List.length_singleton] at *; omega) ?_ | refine sc (And.intro (by omega) trivial) ?_ | refine sc (And.intro rfl (Nat.le_of_ble_eq_true rfl)) ?_ | refine sc (And.intro (by simp only [List.length_map, List.length_append, List.length_cons, List.length_nil, List.length_set, List.length_replicate, List.length_singleton] at *; omega) trivial) ?_ | refine sc (by decide) ?_ | refine sc (fun _ => trivial) ?_ | refine And.intro (fun _ => rfl) ?_ | refine sc (fun _ => And.intro (by omega) trivial) ?_))
    intro s3
    (repeat (first | refine st ?_ | refine And.intro rfl ?_ | refine sc (by omega) ?_ | refine sc (by simp only [List.length_map, List.length_append, List.length_cons, List.length_nil, List.length_set, List.length_replicate, List.length_singleton] at *; omega) ?_ | refine sc (And.intro (by omega) trivial) ?_ | refine sc (And.intro rfl (Nat.le_of_ble_eq_true rfl)) ?_ | refine sc (And.intro (by simp only [List.length_map, List.length_append, List.length_cons, List.length_nil, List.length_set, List.length_replicate, List.length_singleton] at *; omega) trivial) ?_ | refine sc (by decide) ?_ | refine sc (fun _ => trivial) ?_ | refine And.intro (fun _ => rfl) ?_ | refine sc (fun _ => And.intro (by omega) trivial) ?_))
    have h9 := h s3 gs (lq ++ [(s, (os.getD i default).2 + j)]) ⟨hG.len, hG.ol, hG.i, hG.o, fun q hq => ?_, hG.sz, fun x hx => ?_⟩ (by rw [List.length_append]; rfl)
    · simp only [List.map_append, List.map_cons, List.map_nil] at h9
      exact inc h9
    · rw [List.length_append, List.length_singleton] at hq
      by_cases hql : q < lq.length
      · rw [getD_app_l hql]; exact hG.mem q hql
      · have : q = lq.length := by omega
        subst this
        rw [getD_app_r (Nat.le_refl _), Nat.sub_self, hm]
        exact hmem
    · rcases List.mem_append.1 hx with hx | hx
      · exact hG.sz2 x hx
      · rw [List.mem_singleton.1 hx]; show (os.getD i default).2 + j ≤ 200000; omega
  refine cs (fun h1 => ?_) (fun h1 => ?_)
  · (repeat (first | refine st ?_ | refine And.intro rfl ?_ | refine sc (by omega) ?_ | refine sc (by simp only [List.length_map, List.length_append, List.length_cons, List.length_nil, List.length_set, List.length_replicate, List.length_singleton] at *; omega) ?_ | refine sc (And.intro (by omega) trivial) ?_ | refine sc (And.intro rfl (Nat.le_of_ble_eq_true rfl)) ?_ | refine sc (And.intro (by simp only [List.length_map, List.length_append, List.length_cons, List.length_nil, List.length_set, List.length_replicate, List.length_singleton] at *; omega) trivial) ?_ | refine sc (by decide) ?_ | refine sc (fun _ => trivial) ?_ | refine And.intro (fun _ => rfl) ?_ | refine sc (fun _ => And.intro (by omega) trivial) ?_))
    exact more (by omega)
  · (repeat (first | refine st ?_ | refine And.intro rfl ?_ | refine sc (by omega) ?_ | refine sc (by simp only [List.length_map, List.length_append, List.length_cons, List.length_nil, List.length_set, List.length_replicate, List.length_singleton] at *; omega) ?_ | refine sc (And.intro (by omega) trivial) ?_ | refine sc (And.intro rfl (Nat.le_of_ble_eq_true rfl)) ?_ | refine sc (And.intro (by simp only [List.length_map, List.length_append, List.length_cons, List.length_nil, List.length_set, List.length_replicate, List.length_singleton] at *; omega) trivial) ?_ | refine sc (by decide) ?_ | refine sc (fun _ => trivial) ?_ | refine And.intro (fun _ => rfl) ?_ | refine sc (fun _ => And.intro (by omega) trivial) ?_))
    refine cs (fun h2 => ?_) (fun h2 => ?_)
    · (repeat (first | refine st ?_ | refine And.intro rfl ?_ | refine sc (by omega) ?_ | refine sc (by simp only [List.length_map, List.length_append, List.length_cons, List.length_nil, List.length_set, List.length_replicate, List.length_singleton] at *; omega) ?_ | refine sc (And.intro (by omega) trivial) ?_ | refine sc (And.intro rfl (Nat.le_of_ble_eq_true rfl)) ?_ | refine sc (And.intro (by simp only [List.length_map, List.length_append, List.length_cons, List.length_nil, List.length_set, List.length_replicate, List.length_singleton] at *; omega) trivial) ?_ | refine sc (by decide) ?_ | refine sc (fun _ => trivial) ?_ | refine And.intro (fun _ => rfl) ?_ | refine sc (fun _ => And.intro (by omega) trivial) ?_))
      refine cs (fun h3 => ?_) (fun h3 => ?_)
      · (repeat (first | refine st ?_ | refine And.intro rfl ?_ | refine sc (by omega) ?_ | refine sc (by simp only [List.length_map, List.length_append, List.length_cons, List.length_nil, List.length_set, List.length_replicate, List.length_singleton] at *; omega) ?_ | refine sc (And.intro (by omega) trivial) ?_ | refine sc (And.intro rfl (Nat.le_of_ble_eq_true rfl)) ?_ | refine sc (And.intro (by simp only [List.length_map, List.length_append, List.length_cons, List.length_nil, List.length_set, List.length_replicate, List.length_singleton] at *; omega) trivial) ?_ | refine sc (by decide) ?_ | refine sc (fun _ => trivial) ?_ | refine And.intro (fun _ => rfl) ?_ | refine sc (fun _ => And.intro (by omega) trivial) ?_))
        exact more (by omega)
      · (repeat (first | refine st ?_ | refine And.intro rfl ?_ | refine sc (by omega) ?_ | refine sc (by simp only [List.length_map, List.length_append, List.length_cons, List.length_nil, List.length_set, List.length_replicate, List.length_singleton] at *; omega) ?_ | refine sc (And.intro (by omega) trivial) ?_ | refine sc (And.intro rfl (Nat.le_of_ble_eq_true rfl)) ?_ | refine sc (And.intro (by simp only [List.length_map, List.length_append, List.length_cons, List.length_nil, List.length_set, List.length_replicate, List.length_singleton] at *; omega) trivial) ?_ | refine sc (by decide) ?_ | refine sc (fun _ => trivial) ?_ | refine And.intro (fun _ => rfl) ?_ | refine sc (fun _ => And.intro (by omega) trivial) ?_))
        exact done
    · (repeat (first | refine st ?_ | refine And.intro rfl ?_ | refine sc (by omega) ?_ | refine sc (by simp only [List.length_map, List.length_append, List.length_cons, List.length_nil, List.length_set, List.length_replicate, List.length_singleton] at *; omega) ?_ | refine sc (And.intro (by omega) trivial) ?_ | refine sc (And.intro rfl (Nat.le_of_ble_eq_true rfl)) ?_ | refine sc (And.intro (by simp only [List.length_map, List.length_append, List.length_cons, List.length_nil, List.length_set, List.length_replicate, List.length_singleton] at *; omega) trivial) ?_ | refine sc (by decide) ?_ | refine sc (fun _ => trivial) ?_ | refine And.intro (fun _ => rfl) ?_ | refine sc (fun _ => And.intro (by omega) trivial) ?_))
      exact done
theorem lookH_ok {q N : Nat} {a lg : Sl} {gs : List GM} {os lq : List (Sl × Nat)} {as_ : List Sl} {K : List Value → W} {R : Value → W} (hG : GI N gs os lq) (hN : 0 < N) (hN2 : N ≤ 100000) (ha : as_.length = N) (hq : q < lq.length) (hq2 : q ≤ 2000000)
    (h : Ent (bg mH gs :: sl cSl 37 a as_ :: sl cSl 37 lg (lq.map (·.1)) :: F) (K [.int .i64 (q + 1 : Nat)])) :
    Ent (bg mH gs :: sl cSl 37 a as_ :: sl cSl 37 lg (lq.map (·.1)) :: F) (nf16_8 K R (sv a) (.int .i64 (lq.getD q default).2) (.int .i64 q) (sv lg)) := by
  unfold nf16_8
  have hqi : q % N < N := Nat.mod_lt _ hN
  have hgl := hG.len
  have hmem := hG.mem q hq
  have hsz := hG.sz2 _ (getD_mem hq)
  have g1 : (lq.map (·.1)).getD q default = (lq.getD q default).1 := getD_map' hq
  haveI r1 : ∀ M, Rs (bg mH gs :: M) (lq.getD q default).1 (cInt .i64) (List.replicate (lq.getD q default).2 (mkH (q % N))) := fun M => by
    have := rs_bg (f := mH) (l := gs) (i := q % N) (by omega) (s := (lq.getD q default).1) (c := cInt .i64) (xs := List.replicate (lq.getD q default).2 (mkH (gs.getD (q % N) default).i)) (fun M => mrk_rs hmem M) M
    rw [hG.i _ hqi] at this
    exact this
  have hmod : ((q : Int)).tmod (N : Int) = ((q % N : Nat) : Int) := by rw [Int.tmod_eq_emod_of_nonneg (by omega)]; omega
  refine ent_loop0 (γ := Nat) (fun k => [.int .i64 k]) (fun k => k ≤ (lq.getD q default).2) (fun k => (lq.getD q default).2 - k) 0 rfl (by omega) ?_
  intro k hk K1 j hK
  simp only [List.headD_cons] at *
  refine cs (fun h1 => ?_) (fun h1 => ?_)
  · (repeat (first | refine st ?_ | refine And.intro rfl ?_ | refine sc (by omega) ?_ | refine sc (by simp only [List.length_map, List.length_append, List.length_cons, List.length_nil, List.length_set, List.length_replicate, List.length_singleton] at *; omega) ?_ | refine sc (And.intro (by omega) trivial) ?_ | refine sc (And.intro rfl (Nat.le_of_ble_eq_true rfl)) ?_ | refine sc (And.intro (by simp only [List.length_map, List.length_append, List.length_cons, List.length_nil, List.length_set, List.length_replicate, List.length_singleton] at *; omega) trivial) ?_ | refine sc (by decide) ?_ | refine sc (fun _ => trivial) ?_ | refine And.intro (fun _ => rfl) ?_ | refine sc (fun _ => And.intro (by omega) trivial) ?_))
    rw [g1]
    (repeat (first | refine st ?_ | refine And.intro rfl ?_ | refine sc (by omega) ?_ | refine sc (by simp only [List.length_map, List.length_append, List.length_cons, List.length_nil, List.length_set, List.length_replicate, List.length_singleton] at *; omega) ?_ | refine sc (And.intro (by omega) trivial) ?_ | refine sc (And.intro rfl (Nat.le_of_ble_eq_true rfl)) ?_ | refine sc (And.intro (by simp only [List.length_map, List.length_append, List.length_cons, List.length_nil, List.length_set, List.length_replicate, List.length_singleton] at *; omega) trivial) ?_ | refine sc (by decide) ?_ | refine sc (fun _ => trivial) ?_ | refine And.intro (fun _ => rfl) ?_ | refine sc (fun _ => And.intro (by omega) trivial) ?_))
    rw [getD_rep (by omega), ha]
    (repeat (first | refine st ?_ | refine And.intro rfl ?_ | refine sc (by omega) ?_ | refine sc (by simp only [List.length_map, List.length_append, List.length_cons, List.length_nil, List.length_set, List.length_replicate, List.length_singleton] at *; omega) ?_ | refine sc (And.intro (by omega) trivial) ?_ | refine sc (And.intro rfl (Nat.le_of_ble_eq_true rfl)) ?_ | refine sc (And.intro (by simp only [List.length_map, List.length_append, List.length_cons, List.length_nil, List.length_set, List.length_replicate, List.length_singleton] at *; omega) trivial) ?_ | refine sc (by decide) ?_ | refine sc (fun _ => trivial) ?_ | refine And.intro (fun _ => rfl) ?_ | refine sc (fun _ => And.intro (by omega) trivial) ?_))
    rw [hmod]
    (repeat (first | refine st ?_ | refine And.intro rfl ?_ | refine sc (by omega) ?_ | refine sc (by simp only [List.length_map, List.length_append, List.length_cons, List.length_nil, List.length_set, List.length_replicate, List.length_singleton] at *; omega) ?_ | refine sc (And.intro (by omega) trivial) ?_ | refine sc (And.intro rfl (Nat.le_of_ble_eq_true rfl)) ?_ | refine sc (And.intro (by simp only [List.length_map, List.length_append, List.length_cons, List.length_nil, List.length_set, List.length_replicate, List.length_singleton] at *; omega) trivial) ?_ | refine sc (by decide) ?_ | refine sc (fun _ => trivial) ?_ | refine And.intro (fun _ => rfl) ?_ | refine sc (fun _ => And.intro (by omega) trivial) ?_))
    refine ct rfl ?_
    (repeat (first | refine st ?_ | refine And.intro rfl ?_ | refine sc (by omega) ?_ | refine sc (by simp only [List.length_map, List.length_append, List.length_cons, List.length_nil, List.length_set, List.length_replicate, List.length_singleton] at *; omega) ?_ | refine sc (And.intro (by omega) trivial) ?_ | refine sc (And.intro rfl (Nat.le_of_ble_eq_true rfl)) ?_ | refine sc (And.intro (by simp only [List.length_map, List.length_append, List.length_cons, List.length_nil, List.length_set, List.length_replicate, List.length_singleton] at *; omega) trivial) ?_ | refine sc (by decide) ?_ | refine sc (fun _ => trivial) ?_ | refine And.intro (fun _ => rfl) ?_ | refine sc (fun _ => And.intro (by omega) trivial) ?_))
    exact hK (k + 1) (by omega) (by omega)
  · (repeat (first | refine st ?_ | refine And.intro rfl ?_ | refine sc (by omega) ?_ | refine sc (by simp only [List.length_map, List.length_append, List.length_cons, List.length_nil, List.length_set, List.length_replicate, List.length_singleton] at *; omega) ?_ | refine sc (And.intro (by omega) trivial) ?_ | refine sc (And.intro rfl (Nat.le_of_ble_eq_true rfl)) ?_ | refine sc (And.intro (by simp only [List.length_map, List.length_append, List.length_cons, List.length_nil, List.length_set, List.length_replicate, List.length_singleton] at *; omega) trivial) ?_ | refine sc (by decide) ?_ | refine sc (fun _ => trivial) ?_ | refine And.intro (fun _ => rfl) ?_ | refine sc (fun _ => And.intro (by omega) trivial) ?_))
    exact h
end
end Go.Proofs.Ytipjamgjgijeeaa
