/- asks. -/
import Derived.Test.YtmnokpffpadgoaaDoorCa
namespace Go.Proofs.YtmnokpffpadgoaaDoor
set_option linter.unusedSimpArgs false
set_option linter.unusedVariables false
open Go.Dn
set_option linter.unusedSectionVars false
set_option synthInstance.maxSize 10000
set_option synthInstance.maxHeartbeats 400000
set_option maxHeartbeats 2000000
variable [sd : Side]
theorem w_front (p : Nat) {L M1 M2 M3 M4 M5 : List HProp} {cap : Nat} {cc rr : Arr 2 (Option Addr)} {gg : Arr 2 Int} {a b s o n : Sl} {xs : List Fv} {xo xn : List Int} {tp : Option Addr} {Ls : List Fv → List HProp} {Lo Ln : List Int → List HProp} {φ : W}
    [fv : FrontV p L 42 S_wicketlaw17_world.c ⟨cc, rr, a, b, s, o, gg, n⟩ M1] [ps : PickS s M1 84 cFn (xs ++ [mkF (.func 30) #[] #[.pointer (some ⟨cap, 0, none⟩)]]) Ls M2] [po : PickS o M2 3 (cInt .i64) xo Lo M3] [pn : PickS n M3 3 (cInt .i64) xn Ln M4] [fc : FrontV cap M4 24 cPtr tp M5]
    (h : ∀ cp s1 o1 n1, Ent (vr p 42 S_wicketlaw17_world.c ⟨cc, rr, a, b, s1, o1, gg, n1⟩ :: sl cFn 84 s1 (xs ++ [mkF (.func 30) #[] #[.pointer (some ⟨cp, 0, none⟩)]]) :: sl (cInt .i64) 3 o1 xo :: sl (cInt .i64) 3 n1 xn :: vr cp 24 cPtr tp :: M5) φ) : Ent L φ := by
  refine ent_frontV p (ent_pre (fun _ hs => sats_tail (fun _ hs => ?_) hs) (h cap s o n))
  have h1 := ps.out.1 _ hs
  refine sats_tail (fun _ hs => ?_) h1
  have h2 := po.out.1 _ hs
  refine sats_tail (fun _ hs => ?_) h2
  have h3 := pn.out.1 _ hs
  exact sats_tail (fun _ hs => fc.out _ hs) h3
theorem asks0_ok {h0 : Hp} {p : Nat} {en : Int} {g : GW} {N : Nat} {K : Value → W} {F : List HProp} [ho : HasOwn F h0] [vb : VrB h0 0 S_cache_Entry.c markE] (hI : Inv g N) (hN : N < 100)
    (h : ∀ g', Inv g' (N + 1) → Ent (wAt p g' :: F) (K (.bool true))) : Ent (wAt p g :: F) (callC Tryd.prog 10 [.pointer (pt p), .int .i64 0, .int .i64 en] K) := by
  refine ent_mono ?_ fun w => nf10_ok
  unfold nf10
  refine w_open fun a b s o n => ?_
  refine st ?_
  intro v1
  (repeat (first | refine st ?_ | refine And.intro rfl ?_ | refine sc (by omega) ?_ | refine sc (by simp only [List.length_map, List.length_append, List.length_cons, List.length_nil, List.length_set, List.length_replicate, List.length_singleton] at *; omega) ?_ | refine sc (And.intro (by omega) trivial) ?_ | refine sc (And.intro rfl (Nat.le_of_ble_eq_true rfl)) ?_ | refine sc (And.intro (by simp only [List.length_map, List.length_append, List.length_cons, List.length_nil, List.length_set, List.length_replicate, List.length_singleton] at *; omega) trivial) ?_ | refine sc (fun _ => trivial) ?_ | refine And.intro (fun _ => rfl) ?_ | refine sc (fun _ => And.intro (by omega) trivial) ?_))
  rw [show (wv g a b s o n).c_.get 0 = pt g.s0.p from rfl, show (wv g a b s o n).r.get 0 = pt g.s0.q from rfl]
  have hx := hI.hn
  have hitl := hI.it
  have hll := hI.r0.rl.length
  refine ent_take (A := cacheAt g.s0.p g.s0.m) (entries_ok hI.r0.rl.len hI.r0.rl.le fun sa => ?_)
  refine ent_take (A := cacheAt g.s0.p g.s0.m) (entries_ok hI.r0.rl.len hI.r0.rl.le fun sb => ?_)
  refine ent_take (A := sl S_cache_Entry.c 57 sa (lst g.s0.m)) (ent_take (A := sl cSl 46 b (g.hl.map (·.w))) (ent_take (A := sl cSl 60 a (g.hl.map (·.s))) (ent_take (A := vr p 42 S_wicketlaw17_world.c (wv g a b s o n))
    (keep_ok (x := wv g a b s o n) (by rw [List.length_map]; omega) (by rw [List.length_map]; omega) (by omega) fun a2 b2 sw => ?_))))
  (repeat (first | refine st ?_ | refine And.intro rfl ?_ | refine sc (by omega) ?_ | refine sc (by simp only [List.length_map, List.length_append, List.length_cons, List.length_nil, List.length_set, List.length_replicate, List.length_singleton] at *; omega) ?_ | refine sc (And.intro (by omega) trivial) ?_ | refine sc (And.intro rfl (Nat.le_of_ble_eq_true rfl)) ?_ | refine sc (And.intro (by simp only [List.length_map, List.length_append, List.length_cons, List.length_nil, List.length_set, List.length_replicate, List.length_singleton] at *; omega) trivial) ?_ | refine sc (fun _ => trivial) ?_ | refine And.intro (fun _ => rfl) ?_ | refine sc (fun _ => And.intro (by omega) trivial) ?_))
  refine ent_take (A := refAt g.s0.q g.s0.r) (ref_open fun sr => ?_)
  (repeat (first | refine st ?_ | refine And.intro rfl ?_ | refine sc (by omega) ?_ | refine sc (by simp only [List.length_map, List.length_append, List.length_cons, List.length_nil, List.length_set, List.length_replicate, List.length_singleton] at *; omega) ?_ | refine sc (And.intro (by omega) trivial) ?_ | refine sc (And.intro rfl (Nat.le_of_ble_eq_true rfl)) ?_ | refine sc (And.intro (by simp only [List.length_map, List.length_append, List.length_cons, List.length_nil, List.length_set, List.length_replicate, List.length_singleton] at *; omega) trivial) ?_ | refine sc (fun _ => trivial) ?_ | refine And.intro (fun _ => rfl) ?_ | refine sc (fun _ => And.intro (by omega) trivial) ?_))
  refine plain_ok (l := lst g.s0.m) (by omega) fun s3 => ?_
  (repeat (first | refine st ?_ | refine And.intro rfl ?_ | refine sc (by omega) ?_ | refine sc (by simp only [List.length_map, List.length_append, List.length_cons, List.length_nil, List.length_set, List.length_replicate, List.length_singleton] at *; omega) ?_ | refine sc (And.intro (by omega) trivial) ?_ | refine sc (And.intro rfl (Nat.le_of_ble_eq_true rfl)) ?_ | refine sc (And.intro (by simp only [List.length_map, List.length_append, List.length_cons, List.length_nil, List.length_set, List.length_replicate, List.length_singleton] at *; omega) trivial) ?_ | refine sc (fun _ => trivial) ?_ | refine And.intro (fun _ => rfl) ?_ | refine sc (fun _ => And.intro (by omega) trivial) ?_))
  refine same_ok (l1 := (lst g.s0.m).map toR) (l2 := g.s0.r.list) (by rw [List.length_map]; omega) (fun _ => ?_) (fun hc => absurd hI.r0.rl.lst.symm hc)
  (repeat (first | refine st ?_ | refine And.intro rfl ?_ | refine sc (by omega) ?_ | refine sc (by simp only [List.length_map, List.length_append, List.length_cons, List.length_nil, List.length_set, List.length_replicate, List.length_singleton] at *; omega) ?_ | refine sc (And.intro (by omega) trivial) ?_ | refine sc (And.intro rfl (Nat.le_of_ble_eq_true rfl)) ?_ | refine sc (And.intro (by simp only [List.length_map, List.length_append, List.length_cons, List.length_nil, List.length_set, List.length_replicate, List.length_singleton] at *; omega) trivial) ?_ | refine sc (fun _ => trivial) ?_ | refine And.intro (fun _ => rfl) ?_ | refine sc (fun _ => And.intro (by omega) trivial) ?_))
  refine plain_ok (l := lst g.s0.m) (by omega) fun s4 => ?_
  (repeat (first | refine st ?_ | refine And.intro rfl ?_ | refine sc (by omega) ?_ | refine sc (by simp only [List.length_map, List.length_append, List.length_cons, List.length_nil, List.length_set, List.length_replicate, List.length_singleton] at *; omega) ?_ | refine sc (And.intro (by omega) trivial) ?_ | refine sc (And.intro rfl (Nat.le_of_ble_eq_true rfl)) ?_ | refine sc (And.intro (by simp only [List.length_map, List.length_append, List.length_cons, List.length_nil, List.length_set, List.length_replicate, List.length_singleton] at *; omega) trivial) ?_ | refine sc (fun _ => trivial) ?_ | refine And.intro (fun _ => rfl) ?_ | refine sc (fun _ => And.intro (by omega) trivial) ?_))
  refine same_ok (l1 := (lst g.s0.m).map toR) (l2 := g.s0.r.list) (by rw [List.length_map]; omega) (fun _ => ?_) (fun hc => absurd hI.r0.rl.lst.symm hc)
  (repeat (first | refine st ?_ | refine And.intro rfl ?_ | refine sc (by omega) ?_ | refine sc (by simp only [List.length_map, List.length_append, List.length_cons, List.length_nil, List.length_set, List.length_replicate, List.length_singleton] at *; omega) ?_ | refine sc (And.intro (by omega) trivial) ?_ | refine sc (And.intro rfl (Nat.le_of_ble_eq_true rfl)) ?_ | refine sc (And.intro (by simp only [List.length_map, List.length_append, List.length_cons, List.length_nil, List.length_set, List.length_replicate, List.length_singleton] at *; omega) trivial) ?_ | refine sc (fun _ => trivial) ?_ | refine And.intro (fun _ => rfl) ?_ | refine sc (fun _ => And.intro (by omega) trivial) ?_))
  refine ent_take (A := sl S_cache_Entry.c 57 sb (lst g.s0.m)) ?_
  refine ent_loop1 (γ := Nat × List E) (fun t => [.int .i64 t.1]) (fun t => sl S_cache_Entry.c 57 sb t.2) (fun t => t.1 ≤ t.2.length ∧ t.2.length = (lst g.s0.m).length) (fun t => t.2.length - t.1) (0, lst g.s0.m) rfl ⟨by simp, rfl⟩ ?_
  intro ⟨i, l⟩ ⟨hi, hl⟩ K1 j hK
  simp only [List.headD_cons] at *
  (repeat (first | refine st ?_ | refine And.intro rfl ?_ | refine sc (by omega) ?_ | refine sc (by simp only [List.length_map, List.length_append, List.length_cons, List.length_nil, List.length_set, List.length_replicate, List.length_singleton] at *; omega) ?_ | refine sc (And.intro (by omega) trivial) ?_ | refine sc (And.intro rfl (Nat.le_of_ble_eq_true rfl)) ?_ | refine sc (And.intro (by simp only [List.length_map, List.length_append, List.length_cons, List.length_nil, List.length_set, List.length_replicate, List.length_singleton] at *; omega) trivial) ?_ | refine sc (fun _ => trivial) ?_ | refine And.intro (fun _ => rfl) ?_ | refine sc (fun _ => And.intro (by omega) trivial) ?_))
  refine cs (fun h1 => ?_) (fun h1 => ?_)
  · (repeat (first | refine st ?_ | refine And.intro rfl ?_ | refine sc (by omega) ?_ | refine sc (by simp only [List.length_map, List.length_append, List.length_cons, List.length_nil, List.length_set, List.length_replicate, List.length_singleton] at *; omega) ?_ | refine sc (And.intro (by omega) trivial) ?_ | refine sc (And.intro rfl (Nat.le_of_ble_eq_true rfl)) ?_ | refine sc (And.intro (by simp only [List.length_map, List.length_append, List.length_cons, List.length_nil, List.length_set, List.length_replicate, List.length_singleton] at *; omega) trivial) ?_ | refine sc (fun _ => trivial) ?_ | refine And.intro (fun _ => rfl) ?_ | refine sc (fun _ => And.intro (by omega) trivial) ?_))
    exact hK (i + 1, _) ⟨by rw [List.length_set]; show i + 1 ≤ _; omega, by rw [List.length_set]; exact hl⟩ (by rw [List.length_set]; show _ - (i + 1) < _; omega)
  · clear hK hi h1
    (repeat (first | refine st ?_ | refine And.intro rfl ?_ | refine sc (by omega) ?_ | refine sc (by simp only [List.length_map, List.length_append, List.length_cons, List.length_nil, List.length_set, List.length_replicate, List.length_singleton] at *; omega) ?_ | refine sc (And.intro (by omega) trivial) ?_ | refine sc (And.intro rfl (Nat.le_of_ble_eq_true rfl)) ?_ | refine sc (And.intro (by simp only [List.length_map, List.length_append, List.length_cons, List.length_nil, List.length_set, List.length_replicate, List.length_singleton] at *; omega) trivial) ?_ | refine sc (fun _ => trivial) ?_ | refine And.intro (fun _ => rfl) ?_ | refine sc (fun _ => And.intro (by omega) trivial) ?_))
    refine ent_take (A := cacheAt g.s0.p g.s0.m) (given_ok hI.r0.rl.len hI.r0.rl.le fun s5 => ?_)
    (repeat (first | refine st ?_ | refine And.intro rfl ?_ | refine sc (by omega) ?_ | refine sc (by simp only [List.length_map, List.length_append, List.length_cons, List.length_nil, List.length_set, List.length_replicate, List.length_singleton] at *; omega) ?_ | refine sc (And.intro (by omega) trivial) ?_ | refine sc (And.intro rfl (Nat.le_of_ble_eq_true rfl)) ?_ | refine sc (And.intro (by simp only [List.length_map, List.length_append, List.length_cons, List.length_nil, List.length_set, List.length_replicate, List.length_singleton] at *; omega) trivial) ?_ | refine sc (fun _ => trivial) ?_ | refine And.intro (fun _ => rfl) ?_ | refine sc (fun _ => And.intro (by omega) trivial) ?_))
    refine ent_take (A := sl S_wicketref17_Entry.c 76 sr g.s0.r.list) (ent_slen fun c1 c2 => ?_)
    (repeat (first | refine st ?_ | refine And.intro rfl ?_ | refine sc (by omega) ?_ | refine sc (by simp only [List.length_map, List.length_append, List.length_cons, List.length_nil, List.length_set, List.length_replicate, List.length_singleton] at *; omega) ?_ | refine sc (And.intro (by omega) trivial) ?_ | refine sc (And.intro rfl (Nat.le_of_ble_eq_true rfl)) ?_ | refine sc (And.intro (by simp only [List.length_map, List.length_append, List.length_cons, List.length_nil, List.length_set, List.length_replicate, List.length_singleton] at *; omega) trivial) ?_ | refine sc (fun _ => trivial) ?_ | refine And.intro (fun _ => rfl) ?_ | refine sc (fun _ => And.intro (by omega) trivial) ?_))
    intro s6 hc6
    have vw : VwOf s6 S_wicketref17_Entry.c sr 0 (min (max en 0) (g.s0.r.list.length : Int)).toNat := ⟨hc6, by omega⟩
    have e6 : ((lst g.s0.m).take (max en 0).toNat).map toR = (g.s0.r.list.drop 0).take ((min (max en 0) (g.s0.r.list.length : Int)).toNat - 0) := by
      rw [List.drop_zero, Nat.sub_zero, List.map_take, ← hI.r0.rl.lst, List.take_eq_take_iff]
      omega
    (repeat (first | refine st ?_ | refine And.intro rfl ?_ | refine sc (by omega) ?_ | refine sc (by simp only [List.length_map, List.length_append, List.length_cons, List.length_nil, List.length_set, List.length_replicate, List.length_singleton] at *; omega) ?_ | refine sc (And.intro (by omega) trivial) ?_ | refine sc (And.intro rfl (Nat.le_of_ble_eq_true rfl)) ?_ | refine sc (And.intro (by simp only [List.length_map, List.length_append, List.length_cons, List.length_nil, List.length_set, List.length_replicate, List.length_singleton] at *; omega) trivial) ?_ | refine sc (fun _ => trivial) ?_ | refine And.intro (fun _ => rfl) ?_ | refine sc (fun _ => And.intro (by omega) trivial) ?_))
    refine same_ok (l1 := ((lst g.s0.m).take (max en 0).toNat).map toR) (l2 := (g.s0.r.list.drop 0).take ((min (max en 0) (g.s0.r.list.length : Int)).toNat - 0)) (by simp only [List.length_map, List.length_take]; omega) (fun _ => ?_) (fun hc => absurd e6 hc)
    refine ent_take (A := sl S_wicketref17_Entry.c 76 sw ((lst g.s0.m).map toR)) (ent_take (A := sl S_cache_Entry.c 57 sa (lst g.s0.m)) (hl_shut (x := ⟨sa, sw, lst g.s0.m⟩) (ent_take (A := bg hlAt g.hl) (bg_snoc ?_))))
    refine ent_take (A := sl S_wicketref17_Entry.c 76 sr g.s0.r.list) (ent_take (A := vr g.s0.q 72 S_wicketref17_Cache.c ⟨g.s0.r.blocks, sr, g.s0.r.some, g.s0.r.last⟩) (ref_shut (m := g.s0.r) ?_))
    have tail : ∀ cp s1 o1 n1, Ent (vr p 42 S_wicketlaw17_world.c (wv g a2 b2 s1 o1 n1) :: sl cSl 60 a2 (g.hl.map (·.s) ++ [sa]) :: sl cSl 46 b2 (g.hl.map (·.w) ++ [sw]) :: sl cFn 84 s1 (g.it.map itv ++ [mkF (.func 30) #[] #[.pointer (pt cp)]]) ::
        sl (cInt .i64) 3 o1 (g.it.map (·.of) ++ [0]) :: sl (cInt .i64) 3 n1 (g.it.map (·.born) ++ [g.g0]) :: bg hlAt (g.hl ++ [⟨sa, sw, lst g.s0.m⟩]) :: bg itAt g.it :: vr cp 24 cPtr (pt g.s0.p) :: cacheAt g.s0.p g.s0.m :: refAt g.s0.q g.s0.r :: cacheAt g.s1.p g.s1.m :: refAt g.s1.q g.s1.r :: vr v1 4 cBool false :: F)
        (nf10_1 K (.pointer (pt p)) (.pointer (pt v1)) []) := by
      intro cp s1 o1 n1
      unfold nf10_1
      let g2 : GW := ⟨g.s0, g.s1, g.g0, g.g1, g.hl ++ [⟨sa, sw, lst g.s0.m⟩], g.it ++ [⟨cp, g.s0.p, 0, g.g0⟩]⟩
      have hI2 : Inv g2 (N + 1) := by
        refine ⟨hI.r0, hI.r1, by simp only [g2, List.length_append, List.length_singleton]; omega, fun x hx => ?_, by simp only [g2, List.length_append, List.length_singleton]; omega, fun x hx => ?_, by have := hI.g0; simp only [g2]; omega, by have := hI.g1; simp only [g2]; omega⟩
        · rcases List.mem_append.1 hx with hx | hx
          · exact hI.hx x hx
          · rw [List.mem_singleton.1 hx]; show (lst g.s0.m).length ≤ 64; omega
        · rcases List.mem_append.1 hx with hx | hx
          · exact hI.ix x hx
          · rw [List.mem_singleton.1 hx]; exact .inl ⟨rfl, Int.le_refl _, fun _ => rfl⟩
      refine ent_take (A := vr cp 24 cPtr (pt g.s0.p)) (ent_take (A := bg itAt g.it) (bg_snoc (x := (⟨cp, g.s0.p, 0, g.g0⟩ : IT)) ?_))
      have e1 : g.hl.map (·.s) ++ [sa] = g2.hl.map (·.s) := by simp [g2]
      have e2 : g.hl.map (·.w) ++ [sw] = g2.hl.map (·.w) := by simp [g2]
      have e3 : g.it.map itv ++ [mkF (.func 30) #[] #[.pointer (pt cp)]] = g2.it.map itv := by simp [g2, itv]
      have e4 : g.it.map (·.of) ++ [0] = g2.it.map (·.of) := by simp [g2]
      have e5 : g.it.map (·.born) ++ [g.g0] = g2.it.map (·.born) := by simp [g2]
      rw [e1, e2, e3, e4, e5]
      refine inc (M := vr p 42 S_wicketlaw17_world.c (wv g2 a2 b2 s1 o1 n1) :: sl cSl 60 a2 (g2.hl.map (·.s)) :: sl cSl 46 b2 (g2.hl.map (·.w)) :: sl cFn 84 s1 (g2.it.map itv) :: sl (cInt .i64) 3 o1 (g2.it.map (·.of)) :: sl (cInt .i64) 3 n1 (g2.it.map (·.born)) ::
        bg hlAt g2.hl :: bg itAt g2.it :: cacheAt g.s0.p g.s0.m :: refAt g.s0.q g.s0.r :: cacheAt g.s1.p g.s1.m :: refAt g.s1.q g.s1.r :: vr v1 4 cBool false :: F) ?_
      exact w_shut (g := g2) (iters_ok hI2 (by omega) (h g2 hI2))
    (repeat' (first | refine st ?_ | refine And.intro rfl ?_ | refine sc (by omega) ?_ | refine sc (by simp only [List.length_map, List.length_append, List.length_cons, List.length_nil, List.length_set, List.length_replicate, List.length_singleton] at *; omega) ?_ | refine sc (And.intro (by omega) trivial) ?_ | refine sc (And.intro rfl (Nat.le_of_ble_eq_true rfl)) ?_ | refine sc (And.intro (by simp only [List.length_map, List.length_append, List.length_cons, List.length_nil, List.length_set, List.length_replicate, List.length_singleton] at *; omega) trivial) ?_ | refine sc (fun _ => trivial) ?_ | refine And.intro (fun _ => rfl) ?_ | refine sc (fun _ => And.intro (by omega) trivial) ?_ | refine mkall_ok fun _ => ?_ | refine And.intro ?_ ?_ | refine fun (_ : Sl) => ?_ | refine fun (_ : Nat) => ?_))
    all_goals (refine w_front p fun cp s1 o1 n1 => ?_; dsimp only; simp only [Arr.get0, Arr.get1]; exact inc (tail cp s1 o1 n1))
theorem asks1_ok {h0 : Hp} {p : Nat} {en : Int} {g : GW} {N : Nat} {K : Value → W} {F : List HProp} [ho : HasOwn F h0] [vb : VrB h0 0 S_cache_Entry.c markE] (hI : Inv g N) (hN : N < 100)
    (h : ∀ g', Inv g' (N + 1) → Ent (wAt p g' :: F) (K (.bool true))) : Ent (wAt p g :: F) (callC Tryd.prog 10 [.pointer (pt p), .int .i64 1, .int .i64 en] K) := by
  refine ent_mono ?_ fun w => nf10_ok
  unfold nf10
  refine w_open fun a b s o n => ?_
  refine st ?_
  intro v1
  (repeat (first | refine st ?_ | refine And.intro rfl ?_ | refine sc (by omega) ?_ | refine sc (by simp only [List.length_map, List.length_append, List.length_cons, List.length_nil, List.length_set, List.length_replicate, List.length_singleton] at *; omega) ?_ | refine sc (And.intro (by omega) trivial) ?_ | refine sc (And.intro rfl (Nat.le_of_ble_eq_true rfl)) ?_ | refine sc (And.intro (by simp only [List.length_map, List.length_append, List.length_cons, List.length_nil, List.length_set, List.length_replicate, List.length_singleton] at *; omega) trivial) ?_ | refine sc (fun _ => trivial) ?_ | refine And.intro (fun _ => rfl) ?_ | refine sc (fun _ => And.intro (by omega) trivial) ?_))
  rw [show (wv g a b s o n).c_.get 1 = pt g.s1.p from rfl, show (wv g a b s o n).r.get 1 = pt g.s1.q from rfl]
  have hx := hI.hn
  have hitl := hI.it
  have hll := hI.r1.rl.length
  refine ent_take (A := cacheAt g.s1.p g.s1.m) (entries_ok hI.r1.rl.len hI.r1.rl.le fun sa => ?_)
  refine ent_take (A := cacheAt g.s1.p g.s1.m) (entries_ok hI.r1.rl.len hI.r1.rl.le fun sb => ?_)
  refine ent_take (A := sl S_cache_Entry.c 57 sa (lst g.s1.m)) (ent_take (A := sl cSl 46 b (g.hl.map (·.w))) (ent_take (A := sl cSl 60 a (g.hl.map (·.s))) (ent_take (A := vr p 42 S_wicketlaw17_world.c (wv g a b s o n))
    (keep_ok (x := wv g a b s o n) (by rw [List.length_map]; omega) (by rw [List.length_map]; omega) (by omega) fun a2 b2 sw => ?_))))
  (repeat (first | refine st ?_ | refine And.intro rfl ?_ | refine sc (by omega) ?_ | refine sc (by simp only [List.length_map, List.length_append, List.length_cons, List.length_nil, List.length_set, List.length_replicate, List.length_singleton] at *; omega) ?_ | refine sc (And.intro (by omega) trivial) ?_ | refine sc (And.intro rfl (Nat.le_of_ble_eq_true rfl)) ?_ | refine sc (And.intro (by simp only [List.length_map, List.length_append, List.length_cons, List.length_nil, List.length_set, List.length_replicate, List.length_singleton] at *; omega) trivial) ?_ | refine sc (fun _ => trivial) ?_ | refine And.intro (fun _ => rfl) ?_ | refine sc (fun _ => And.intro (by omega) trivial) ?_))
  refine ent_take (A := refAt g.s1.q g.s1.r) (ref_open fun sr => ?_)
  (repeat (first | refine st ?_ | refine And.intro rfl ?_ | refine sc (by omega) ?_ | refine sc (by simp only [List.length_map, List.length_append, List.length_cons, List.length_nil, List.length_set, List.length_replicate, List.length_singleton] at *; omega) ?_ | refine sc (And.intro (by omega) trivial) ?_ | refine sc (And.intro rfl (Nat.le_of_ble_eq_true rfl)) ?_ | refine sc (And.intro (by simp only [List.length_map, List.length_append, List.length_cons, List.length_nil, List.length_set, List.length_replicate, List.length_singleton] at *; omega) trivial) ?_ | refine sc (fun _ => trivial) ?_ | refine And.intro (fun _ => rfl) ?_ | refine sc (fun _ => And.intro (by omega) trivial) ?_))
  refine plain_ok (l := lst g.s1.m) (by omega) fun s3 => ?_
  (repeat (first | refine st ?_ | refine And.intro rfl ?_ | refine sc (by omega) ?_ | refine sc (by simp only [List.length_map, List.length_append, List.length_cons, List.length_nil, List.length_set, List.length_replicate, List.length_singleton] at *; omega) ?_ | refine sc (And.intro (by omega) trivial) ?_ | refine sc (And.intro rfl (Nat.le_of_ble_eq_true rfl)) ?_ | refine sc (And.intro (by simp only [List.length_map, List.length_append, List.length_cons, List.length_nil, List.length_set, List.length_replicate, List.length_singleton] at *; omega) trivial) ?_ | refine sc (fun _ => trivial) ?_ | refine And.intro (fun _ => rfl) ?_ | refine sc (fun _ => And.intro (by omega) trivial) ?_))
  refine same_ok (l1 := (lst g.s1.m).map toR) (l2 := g.s1.r.list) (by rw [List.length_map]; omega) (fun _ => ?_) (fun hc => absurd hI.r1.rl.lst.symm hc)
  (repeat (first | refine st ?_ | refine And.intro rfl ?_ | refine sc (by omega) ?_ | refine sc (by simp only [List.length_map, List.length_append, List.length_cons, List.length_nil, List.length_set, List.length_replicate, List.length_singleton] at *; omega) ?_ | refine sc (And.intro (by omega) trivial) ?_ | refine sc (And.intro rfl (Nat.le_of_ble_eq_true rfl)) ?_ | refine sc (And.intro (by simp only [List.length_map, List.length_append, List.length_cons, List.length_nil, List.length_set, List.length_replicate, List.length_singleton] at *; omega) trivial) ?_ | refine sc (fun _ => trivial) ?_ | refine And.intro (fun _ => rfl) ?_ | refine sc (fun _ => And.intro (by omega) trivial) ?_))
  refine plain_ok (l := lst g.s1.m) (by omega) fun s4 => ?_
  (repeat (first | refine st ?_ | refine And.intro rfl ?_ | refine sc (by omega) ?_ | refine sc (by simp only [List.length_map, List.length_append, List.length_cons, List.length_nil, List.length_set, List.length_replicate, List.length_singleton] at *; omega) ?_ | refine sc (And.intro (by omega) trivial) ?_ | refine sc (And.intro rfl (Nat.le_of_ble_eq_true rfl)) ?_ | refine sc (And.intro (by simp only [List.length_map, List.length_append, List.length_cons, List.length_nil, List.length_set, List.length_replicate, List.length_singleton] at *; omega) trivial) ?_ | refine sc (fun _ => trivial) ?_ | refine And.intro (fun _ => rfl) ?_ | refine sc (fun _ => And.intro (by omega) trivial) ?_))
  refine same_ok (l1 := (lst g.s1.m).map toR) (l2 := g.s1.r.list) (by rw [List.length_map]; omega) (fun _ => ?_) (fun hc => absurd hI.r1.rl.lst.symm hc)
  (repeat (first | refine st ?_ | refine And.intro rfl ?_ | refine sc (by omega) ?_ | refine sc (by simp only [List.length_map, List.length_append, List.length_cons, List.length_nil, List.length_set, List.length_replicate, List.length_singleton] at *; omega) ?_ | refine sc (And.intro (by omega) trivial) ?_ | refine sc (And.intro rfl (Nat.le_of_ble_eq_true rfl)) ?_ | refine sc (And.intro (by simp only [List.length_map, List.length_append, List.length_cons, List.length_nil, List.length_set, List.length_replicate, List.length_singleton] at *; omega) trivial) ?_ | refine sc (fun _ => trivial) ?_ | refine And.intro (fun _ => rfl) ?_ | refine sc (fun _ => And.intro (by omega) trivial) ?_))
  refine ent_take (A := sl S_cache_Entry.c 57 sb (lst g.s1.m)) ?_
  refine ent_loop1 (γ := Nat × List E) (fun t => [.int .i64 t.1]) (fun t => sl S_cache_Entry.c 57 sb t.2) (fun t => t.1 ≤ t.2.length ∧ t.2.length = (lst g.s1.m).length) (fun t => t.2.length - t.1) (0, lst g.s1.m) rfl ⟨by simp, rfl⟩ ?_
  intro ⟨i, l⟩ ⟨hi, hl⟩ K1 j hK
  simp only [List.headD_cons] at *
  (repeat (first | refine st ?_ | refine And.intro rfl ?_ | refine sc (by omega) ?_ | refine sc (by simp only [List.length_map, List.length_append, List.length_cons, List.length_nil, List.length_set, List.length_replicate, List.length_singleton] at *; omega) ?_ | refine sc (And.intro (by omega) trivial) ?_ | refine sc (And.intro rfl (Nat.le_of_ble_eq_true rfl)) ?_ | refine sc (And.intro (by simp only [List.length_map, List.length_append, List.length_cons, List.length_nil, List.length_set, List.length_replicate, List.length_singleton] at *; omega) trivial) ?_ | refine sc (fun _ => trivial) ?_ | refine And.intro (fun _ => rfl) ?_ | refine sc (fun _ => And.intro (by omega) trivial) ?_))
  refine cs (fun h1 => ?_) (fun h1 => ?_)
  · (repeat (first | refine st ?_ | refine And.intro rfl ?_ | refine sc (by omega) ?_ | refine sc (by simp only [List.length_map, List.length_append, List.length_cons, List.length_nil, List.length_set, List.length_replicate, List.length_singleton] at *; omega) ?_ | refine sc (And.intro (by omega) trivial) ?_ | refine sc (And.intro rfl (Nat.le_of_ble_eq_true rfl)) ?_ | refine sc (And.intro (by simp only [List.length_map, List.length_append, List.length_cons, List.length_nil, List.length_set, List.length_replicate, List.length_singleton] at *; omega) trivial) ?_ | refine sc (fun _ => trivial) ?_ | refine And.intro (fun _ => rfl) ?_ | refine sc (fun _ => And.intro (by omega) trivial) ?_))
    exact hK (i + 1, _) ⟨by rw [List.length_set]; show i + 1 ≤ _; omega, by rw [List.length_set]; exact hl⟩ (by rw [List.length_set]; show _ - (i + 1) < _; omega)
  · clear hK hi h1
    (repeat (first | refine st ?_ | refine And.intro rfl ?_ | refine sc (by omega) ?_ | refine sc (by simp only [List.length_map, List.length_append, List.length_cons, List.length_nil, List.length_set, List.length_replicate, List.length_singleton] at *; omega) ?_ | refine sc (And.intro (by omega) trivial) ?_ | refine sc (And.intro rfl (Nat.le_of_ble_eq_true rfl)) ?_ | refine sc (And.intro (by simp only [List.length_map, List.length_append, List.length_cons, List.length_nil, List.length_set, List.length_replicate, List.length_singleton] at *; omega) trivial) ?_ | refine sc (fun _ => trivial) ?_ | refine And.intro (fun _ => rfl) ?_ | refine sc (fun _ => And.intro (by omega) trivial) ?_))
    refine ent_take (A := cacheAt g.s1.p g.s1.m) (given_ok hI.r1.rl.len hI.r1.rl.le fun s5 => ?_)
    (repeat (first | refine st ?_ | refine And.intro rfl ?_ | refine sc (by omega) ?_ | refine sc (by simp only [List.length_map, List.length_append, List.length_cons, List.length_nil, List.length_set, List.length_replicate, List.length_singleton] at *; omega) ?_ | refine sc (And.intro (by omega) trivial) ?_ | refine sc (And.intro rfl (Nat.le_of_ble_eq_true rfl)) ?_ | refine sc (And.intro (by simp only [List.length_map, List.length_append, List.length_cons, List.length_nil, List.length_set, List.length_replicate, List.length_singleton] at *; omega) trivial) ?_ | refine sc (fun _ => trivial) ?_ | refine And.intro (fun _ => rfl) ?_ | refine sc (fun _ => And.intro (by omega) trivial) ?_))
    refine ent_take (A := sl S_wicketref17_Entry.c 76 sr g.s1.r.list) (ent_slen fun c1 c2 => ?_)
    (repeat (first | refine st ?_ | refine And.intro rfl ?_ | refine sc (by omega) ?_ | refine sc (by simp only [List.length_map, List.length_append, List.length_cons, List.length_nil, List.length_set, List.length_replicate, List.length_singleton] at *; omega) ?_ | refine sc (And.intro (by omega) trivial) ?_ | refine sc (And.intro rfl (Nat.le_of_ble_eq_true rfl)) ?_ | refine sc (And.intro (by simp only [List.length_map, List.length_append, List.length_cons, List.length_nil, List.length_set, List.length_replicate, List.length_singleton] at *; omega) trivial) ?_ | refine sc (fun _ => trivial) ?_ | refine And.intro (fun _ => rfl) ?_ | refine sc (fun _ => And.intro (by omega) trivial) ?_))
    intro s6 hc6
    have vw : VwOf s6 S_wicketref17_Entry.c sr 0 (min (max en 0) (g.s1.r.list.length : Int)).toNat := ⟨hc6, by omega⟩
    have e6 : ((lst g.s1.m).take (max en 0).toNat).map toR = (g.s1.r.list.drop 0).take ((min (max en 0) (g.s1.r.list.length : Int)).toNat - 0) := by
      rw [List.drop_zero, Nat.sub_zero, List.map_take, ← hI.r1.rl.lst, List.take_eq_take_iff]
      omega
    (repeat (first | refine st ?_ | refine And.intro rfl ?_ | refine sc (by omega) ?_ | refine sc (by simp only [List.length_map, List.length_append, List.length_cons, List.length_nil, List.length_set, List.length_replicate, List.length_singleton] at *; omega) ?_ | refine sc (And.intro (by omega) trivial) ?_ | refine sc (And.intro rfl (Nat.le_of_ble_eq_true rfl)) ?_ | refine sc (And.intro (by simp only [List.length_map, List.length_append, List.length_cons, List.length_nil, List.length_set, List.length_replicate, List.length_singleton] at *; omega) trivial) ?_ | refine sc (fun _ => trivial) ?_ | refine And.intro (fun _ => rfl) ?_ | refine sc (fun _ => And.intro (by omega) trivial) ?_))
    refine same_ok (l1 := ((lst g.s1.m).take (max en 0).toNat).map toR) (l2 := (g.s1.r.list.drop 0).take ((min (max en 0) (g.s1.r.list.length : Int)).toNat - 0)) (by simp only [List.length_map, List.length_take]; omega) (fun _ => ?_) (fun hc => absurd e6 hc)
    refine ent_take (A := sl S_wicketref17_Entry.c 76 sw ((lst g.s1.m).map toR)) (ent_take (A := sl S_cache_Entry.c 57 sa (lst g.s1.m)) (hl_shut (x := ⟨sa, sw, lst g.s1.m⟩) (ent_take (A := bg hlAt g.hl) (bg_snoc ?_))))
    refine ent_take (A := sl S_wicketref17_Entry.c 76 sr g.s1.r.list) (ent_take (A := vr g.s1.q 72 S_wicketref17_Cache.c ⟨g.s1.r.blocks, sr, g.s1.r.some, g.s1.r.last⟩) (ref_shut (m := g.s1.r) ?_))
    have tail : ∀ cp s1 o1 n1, Ent (vr p 42 S_wicketlaw17_world.c (wv g a2 b2 s1 o1 n1) :: sl cSl 60 a2 (g.hl.map (·.s) ++ [sa]) :: sl cSl 46 b2 (g.hl.map (·.w) ++ [sw]) :: sl cFn 84 s1 (g.it.map itv ++ [mkF (.func 30) #[] #[.pointer (pt cp)]]) ::
        sl (cInt .i64) 3 o1 (g.it.map (·.of) ++ [1]) :: sl (cInt .i64) 3 n1 (g.it.map (·.born) ++ [g.g1]) :: bg hlAt (g.hl ++ [⟨sa, sw, lst g.s1.m⟩]) :: bg itAt g.it :: vr cp 24 cPtr (pt g.s1.p) :: cacheAt g.s0.p g.s0.m :: refAt g.s0.q g.s0.r :: cacheAt g.s1.p g.s1.m :: refAt g.s1.q g.s1.r :: vr v1 4 cBool false :: F)
        (nf10_1 K (.pointer (pt p)) (.pointer (pt v1)) []) := by
      intro cp s1 o1 n1
      unfold nf10_1
      let g2 : GW := ⟨g.s0, g.s1, g.g0, g.g1, g.hl ++ [⟨sa, sw, lst g.s1.m⟩], g.it ++ [⟨cp, g.s1.p, 1, g.g1⟩]⟩
      have hI2 : Inv g2 (N + 1) := by
        refine ⟨hI.r0, hI.r1, by simp only [g2, List.length_append, List.length_singleton]; omega, fun x hx => ?_, by simp only [g2, List.length_append, List.length_singleton]; omega, fun x hx => ?_, by have := hI.g0; simp only [g2]; omega, by have := hI.g1; simp only [g2]; omega⟩
        · rcases List.mem_append.1 hx with hx | hx
          · exact hI.hx x hx
          · rw [List.mem_singleton.1 hx]; show (lst g.s1.m).length ≤ 64; omega
        · rcases List.mem_append.1 hx with hx | hx
          · exact hI.ix x hx
          · rw [List.mem_singleton.1 hx]; exact .inr ⟨rfl, Int.le_refl _, fun _ => rfl⟩
      refine ent_take (A := vr cp 24 cPtr (pt g.s1.p)) (ent_take (A := bg itAt g.it) (bg_snoc (x := (⟨cp, g.s1.p, 1, g.g1⟩ : IT)) ?_))
      have e1 : g.hl.map (·.s) ++ [sa] = g2.hl.map (·.s) := by simp [g2]
      have e2 : g.hl.map (·.w) ++ [sw] = g2.hl.map (·.w) := by simp [g2]
      have e3 : g.it.map itv ++ [mkF (.func 30) #[] #[.pointer (pt cp)]] = g2.it.map itv := by simp [g2, itv]
      have e4 : g.it.map (·.of) ++ [1] = g2.it.map (·.of) := by simp [g2]
      have e5 : g.it.map (·.born) ++ [g.g1] = g2.it.map (·.born) := by simp [g2]
      rw [e1, e2, e3, e4, e5]
      refine inc (M := vr p 42 S_wicketlaw17_world.c (wv g2 a2 b2 s1 o1 n1) :: sl cSl 60 a2 (g2.hl.map (·.s)) :: sl cSl 46 b2 (g2.hl.map (·.w)) :: sl cFn 84 s1 (g2.it.map itv) :: sl (cInt .i64) 3 o1 (g2.it.map (·.of)) :: sl (cInt .i64) 3 n1 (g2.it.map (·.born)) ::
        bg hlAt g2.hl :: bg itAt g2.it :: cacheAt g.s0.p g.s0.m :: refAt g.s0.q g.s0.r :: cacheAt g.s1.p g.s1.m :: refAt g.s1.q g.s1.r :: vr v1 4 cBool false :: F) ?_
      exact w_shut (g := g2) (iters_ok hI2 (by omega) (h g2 hI2))
    (repeat' (first | refine st ?_ | refine And.intro rfl ?_ | refine sc (by omega) ?_ | refine sc (by simp only [List.length_map, List.length_append, List.length_cons, List.length_nil, List.length_set, List.length_replicate, List.length_singleton] at *; omega) ?_ | refine sc (And.intro (by omega) trivial) ?_ | refine sc (And.intro rfl (Nat.le_of_ble_eq_true rfl)) ?_ | refine sc (And.intro (by simp only [List.length_map, List.length_append, List.length_cons, List.length_nil, List.length_set, List.length_replicate, List.length_singleton] at *; omega) trivial) ?_ | refine sc (fun _ => trivial) ?_ | refine And.intro (fun _ => rfl) ?_ | refine sc (fun _ => And.intro (by omega) trivial) ?_ | refine mkall_ok fun _ => ?_ | refine And.intro ?_ ?_ | refine fun (_ : Sl) => ?_ | refine fun (_ : Nat) => ?_))
    all_goals (refine w_front p fun cp s1 o1 n1 => ?_; dsimp only; simp only [Arr.get0, Arr.get1]; exact inc (tail cp s1 o1 n1))
end Go.Proofs.YtmnokpffpadgoaaDoor
