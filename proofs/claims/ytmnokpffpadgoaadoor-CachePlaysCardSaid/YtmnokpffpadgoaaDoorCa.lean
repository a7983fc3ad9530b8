/- asks: what is there now, told by all that can tell it. -/
import Derived.Test.YtmnokpffpadgoaaDoorCp
namespace Go.Proofs.YtmnokpffpadgoaaDoor
set_option linter.unusedSimpArgs false
set_option linter.unusedVariables false
open Go.Dn
set_option linter.unusedSectionVars false
set_option synthInstance.maxSize 10000
set_option synthInstance.maxHeartbeats 400000
set_option maxHeartbeats 2000000
variable [sd : Side]
def ItOk (g : GW) (x : IT) : Prop := (x.of = 0 ∧ x.born ≤ g.g0 ∧ (x.born = g.g0 → x.tgt = g.s0.p)) ∨ (x.of = 1 ∧ x.born ≤ g.g1 ∧ (x.born = g.g1 → x.tgt = g.s1.p))
structure Inv (g : GW) (N : Nat) : Prop where
  r0 : Rel g.s0.m g.s0.r
  r1 : Rel g.s1.m g.s1.r
  hn : g.hl.length ≤ N
  hx : ∀ x ∈ g.hl, x.xs.length ≤ 64
  it : g.it.length ≤ N
  ix : ∀ x ∈ g.it, ItOk g x
  g0 : 0 ≤ g.g0 ∧ g.g0 ≤ N
  g1 : 0 ≤ g.g1 ∧ g.g1 ≤ N
theorem range10_ok {a6 : Value} {v cap cp : Nat} {cm : CM} {x17 x175 x176 x177 x178 x179 x180 x181 x182 : Value} {Jn Jr : List Nat → W} {F : List HProp} (hl : cm.there.length = cm.ents.length) (hn : cm.ents.length ≤ 64)
    (h : ∀ s r, Ent (vr v 60 cSl s :: sl S_cache_Entry.c 57 s (lst cm) :: dfr r :: vr cap 24 cPtr (pt cp) :: cacheAt cp cm :: F) (Jn [r])) :
    Ent (vr v 60 cSl Sl.nil :: vr cap 24 cPtr (pt cp) :: cacheAt cp cm :: F) (rangeW Tryd.prog none 196 (.func (.func 30) #[] #[.pointer (pt cap)]) (rfP Tryd.f10 0) (rfA Tryd.f10 0) (rfB Tryd.f10 0)
      [(6, a6), (16, .pointer (pt v)), (17, x17), (175, x175), (176, x176), (177, x177), (178, x178), (179, x179), (180, x180), (181, x181), (182, x182)] Jn Jr []) := by
  refine ent_range ?_
  intro fn tmps l r hs hf K2 hK2
  refine inc (M := vr v 60 cSl Sl.nil :: vr cap 24 cPtr (some ⟨cp, 0, none⟩) :: cacheAt cp cm :: lrec l .ready none fn tmps (rfP Tryd.f10 0) (rfA Tryd.f10 0) (rfB Tryd.f10 0) r :: dfr r :: F) (ent_nil S_cache_Entry.c 57 (ent_swap (slv_shut ?_)))
  refine ent_take (A := cacheAt cp cm) (cache_openX fun se sh => ?_)
  refine inc (M := vr cap 24 cPtr (some ⟨cp, 0, none⟩) :: cacheX cp cm se sh :: slv v 60 S_cache_Entry.c 57 [] :: lrec l .ready none fn tmps (rfP Tryd.f10 0) (rfA Tryd.f10 0) (rfB Tryd.f10 0) r :: dfr r :: F) ?_
  refine all_ok (Y := fun i => slv v 60 S_cache_Entry.c 57 (lstP cm i) :: lrec l .ready none fn tmps (rfP Tryd.f10 0) (rfA Tryd.f10 0) (rfB Tryd.f10 0) r :: dfr r :: F) (S := fun _ => [ff]) (Q := fun _ => True) hl hn trivial ?_ ?_ ?_ ?_
  · intro i hi hb _ K' h1 _
    refine nf10_r0_ok hs hf ?_
    unfold nf10_r0
    refine st ?_
    intro q
    (repeat (first | refine st ?_ | refine And.intro rfl ?_ | refine sc (by omega) ?_ | refine sc (by simp only [List.length_map, List.length_append, List.length_cons, List.length_nil, List.length_set, List.length_replicate, List.length_singleton] at *; omega) ?_ | refine sc (And.intro (by omega) trivial) ?_ | refine sc (And.intro rfl (Nat.le_of_ble_eq_true rfl)) ?_ | refine sc (And.intro (by simp only [List.length_map, List.length_append, List.length_cons, List.length_nil, List.length_set, List.length_replicate, List.length_singleton] at *; omega) trivial) ?_ | refine sc (fun _ => trivial) ?_ | refine And.intro (fun _ => rfl) ?_ | refine sc (fun _ => And.intro (by omega) trivial) ?_))
    refine ent_take (A := slv v 60 S_cache_Entry.c 57 (lstP cm i)) (slv_open fun s => ?_)
    (repeat (first | refine st ?_ | refine And.intro rfl ?_ | refine sc (by omega) ?_ | refine sc (by simp only [List.length_map, List.length_append, List.length_cons, List.length_nil, List.length_set, List.length_replicate, List.length_singleton] at *; omega) ?_ | refine sc (And.intro (by omega) trivial) ?_ | refine sc (And.intro rfl (Nat.le_of_ble_eq_true rfl)) ?_ | refine sc (And.intro (by simp only [List.length_map, List.length_append, List.length_cons, List.length_nil, List.length_set, List.length_replicate, List.length_singleton] at *; omega) trivial) ?_ | refine sc (fun _ => trivial) ?_ | refine And.intro (fun _ => rfl) ?_ | refine sc (fun _ => And.intro (by omega) trivial) ?_))
    intro s2
    have hlen := lstP_len (m := cm) i
    (repeat (first | refine st ?_ | refine And.intro rfl ?_ | refine sc (by omega) ?_ | refine sc (by simp only [List.length_map, List.length_append, List.length_cons, List.length_nil, List.length_set, List.length_replicate, List.length_singleton] at *; omega) ?_ | refine sc (And.intro (by omega) trivial) ?_ | refine sc (And.intro rfl (Nat.le_of_ble_eq_true rfl)) ?_ | refine sc (And.intro (by simp only [List.length_map, List.length_append, List.length_cons, List.length_nil, List.length_set, List.length_replicate, List.length_singleton] at *; omega) trivial) ?_ | refine sc (fun _ => trivial) ?_ | refine And.intro (fun _ => rfl) ?_ | refine sc (fun _ => And.intro (by omega) trivial) ?_))
    intro s3
    (repeat (first | refine st ?_ | refine And.intro rfl ?_ | refine sc (by omega) ?_ | refine sc (by simp only [List.length_map, List.length_append, List.length_cons, List.length_nil, List.length_set, List.length_replicate, List.length_singleton] at *; omega) ?_ | refine sc (And.intro (by omega) trivial) ?_ | refine sc (And.intro rfl (Nat.le_of_ble_eq_true rfl)) ?_ | refine sc (And.intro (by simp only [List.length_map, List.length_append, List.length_cons, List.length_nil, List.length_set, List.length_replicate, List.length_singleton] at *; omega) trivial) ?_ | refine sc (fun _ => trivial) ?_ | refine And.intro (fun _ => rfl) ?_ | refine sc (fun _ => And.intro (by omega) trivial) ?_))
    refine cf (by simp only [List.length_append, List.length_singleton]; omega) ?_
    (repeat (first | refine st ?_ | refine And.intro rfl ?_ | refine sc (by omega) ?_ | refine sc (by simp only [List.length_map, List.length_append, List.length_cons, List.length_nil, List.length_set, List.length_replicate, List.length_singleton] at *; omega) ?_ | refine sc (And.intro (by omega) trivial) ?_ | refine sc (And.intro rfl (Nat.le_of_ble_eq_true rfl)) ?_ | refine sc (And.intro (by simp only [List.length_map, List.length_append, List.length_cons, List.length_nil, List.length_set, List.length_replicate, List.length_singleton] at *; omega) trivial) ?_ | refine sc (fun _ => trivial) ?_ | refine And.intro (fun _ => rfl) ?_ | refine sc (fun _ => And.intro (by omega) trivial) ?_))
    have h2 := h1 trivial
    rw [lstP_yes hb] at h2
    exact ent_take (A := sl S_cache_Entry.c 57 s3 (lstP cm i ++ [cm.ents.getD i default])) (ent_take (A := vr v 60 cSl s3) (slv_shut (inc h2)))
  · intro i hb
    exact ⟨fun _ => trivial, by rw [lstP_no hb]⟩
  · intro i _ _ _
    exact inc (M := [ff]) ent_ff
  · intro _
    refine ent_take (A := lrec l .ready none fn tmps (rfP Tryd.f10 0) (rfA Tryd.f10 0) (rfB Tryd.f10 0) r) (hK2 _ _ _ _ (by simp) ?_)
    show Ent _ _
    refine ent_take (A := slv v 60 S_cache_Entry.c 57 (lst cm)) (slv_open fun s => ?_)
    exact ent_take (A := cacheX cp cm se sh) (cache_shutX (inc (h s r)))
theorem getD_map' {α β : Type} [Inhabited α] [Inhabited β] {f : α → β} {l : List α} {i : Nat} (hi : i < l.length) : (l.map f).getD i default = f (l.getD i default) := by
  simp [hi]
def wA (p : Nat) (g : GW) (a b s o n : Sl) : HProp := stars [vr p 42 S_wicketlaw17_world.c (wv g a b s o n), sl cSl 60 a (g.hl.map (·.s)), sl cSl 46 b (g.hl.map (·.w)), sl cFn 84 s (g.it.map itv), sl (cInt .i64) 3 o (g.it.map (·.of)), sl (cInt .i64) 3 n (g.it.map (·.born)), bg hlAt g.hl]
theorem wA_open {p : Nat} {g : GW} {a b s o n : Sl} {F : List HProp} {φ : W} (h : Ent (vr p 42 S_wicketlaw17_world.c (wv g a b s o n) :: sl cSl 60 a (g.hl.map (·.s)) :: sl cSl 46 b (g.hl.map (·.w)) :: sl cFn 84 s (g.it.map itv) :: sl (cInt .i64) 3 o (g.it.map (·.of)) :: sl (cInt .i64) 3 n (g.it.map (·.born)) :: bg hlAt g.hl :: F) φ) : Ent (wA p g a b s o n :: F) φ :=
  ent_open (M := [_, _, _, _, _, _, _]) (fun _ h => h) h
theorem wA_shut {p : Nat} {g : GW} {a b s o n : Sl} {F : List HProp} {φ : W} (h : Ent (wA p g a b s o n :: F) φ) : Ent (vr p 42 S_wicketlaw17_world.c (wv g a b s o n) :: sl cSl 60 a (g.hl.map (·.s)) :: sl cSl 46 b (g.hl.map (·.w)) :: sl cFn 84 s (g.it.map itv) :: sl (cInt .i64) 3 o (g.it.map (·.of)) :: sl (cInt .i64) 3 n (g.it.map (·.born)) :: bg hlAt g.hl :: F) φ :=
  ent_shut (M := [_, _, _, _, _, _, _]) (fun _ h => h) h
theorem fn_itv (x : IT) : cFn.val (itv x) = .func (.func 30) #[] #[.pointer (pt x.cap)] := rfl
theorem iters_ok {p v1 : Nat} {g : GW} {N : Nat} {K : Value → W} {F : List HProp} (hI : Inv g N) (hN : N ≤ 100) (h : Ent (wAt p g :: F) (K (.bool true))) :
    Ent (wAt p g :: vr v1 4 cBool false :: F) (nf10_3 K (.pointer (pt p)) [] (.pointer (pt v1))) := by
  unfold nf10_3
  refine w_open fun a b s o n => ?_
  refine bg_nil dfr ?_
  refine ent_loopM (γ := Nat × List Nat) (fun t => [.int .i64 t.1]) (fun t => t.2)
    (fun t => bg dfr t.2 :: vr v1 4 cBool false :: vr p 42 S_wicketlaw17_world.c (wv g a b s o n) :: sl cSl 60 a (g.hl.map (·.s)) :: sl cSl 46 b (g.hl.map (·.w)) :: sl cFn 84 s (g.it.map itv) :: sl (cInt .i64) 3 o (g.it.map (·.of)) :: sl (cInt .i64) 3 n (g.it.map (·.born)) ::
      bg hlAt g.hl :: bg itAt g.it :: cacheAt g.s0.p g.s0.m :: refAt g.s0.q g.s0.r :: cacheAt g.s1.p g.s1.m :: refAt g.s1.q g.s1.r :: F) (fun t => t.1 ≤ g.it.length) (fun t => g.it.length - t.1) (0, []) rfl rfl (by omega) inferInstance (fun t t' ht => by simp at ht; omega) ?_
  intro ⟨i, mk⟩ hi K1 j hK
  have hit := hI.it
  simp only [List.headD_cons] at *
  (repeat (first | refine st ?_ | refine And.intro rfl ?_ | refine sc (by omega) ?_ | refine sc (by simp only [List.length_map, List.length_append, List.length_cons, List.length_nil, List.length_set, List.length_replicate, List.length_singleton] at *; omega) ?_ | refine sc (And.intro (by omega) trivial) ?_ | refine sc (And.intro rfl (Nat.le_of_ble_eq_true rfl)) ?_ | refine sc (And.intro (by simp only [List.length_map, List.length_append, List.length_cons, List.length_nil, List.length_set, List.length_replicate, List.length_singleton] at *; omega) trivial) ?_ | refine sc (fun _ => trivial) ?_ | refine And.intro (fun _ => rfl) ?_ | refine sc (fun _ => And.intro (by omega) trivial) ?_))
  refine cs (fun h1 => ?_) (fun h1 => ?_)
  · have hi1 : i < g.it.length := by simp only [List.length_map] at h1; omega
    have hX := hI.ix _ (getD_mem hi1)
    (repeat (first | refine st ?_ | refine And.intro rfl ?_ | refine sc (by omega) ?_ | refine sc (by simp only [List.length_map, List.length_append, List.length_cons, List.length_nil, List.length_set, List.length_replicate, List.length_singleton] at *; omega) ?_ | refine sc (And.intro (by omega) trivial) ?_ | refine sc (And.intro rfl (Nat.le_of_ble_eq_true rfl)) ?_ | refine sc (And.intro (by simp only [List.length_map, List.length_append, List.length_cons, List.length_nil, List.length_set, List.length_replicate, List.length_singleton] at *; omega) trivial) ?_ | refine sc (fun _ => trivial) ?_ | refine And.intro (fun _ => rfl) ?_ | refine sc (fun _ => And.intro (by omega) trivial) ?_))
    rw [getD_map' (f := fun x : IT => x.of) hi1]
    rcases hX with ⟨ho, hb, ht⟩ | ⟨ho, hb, ht⟩
    · rw [ho]
      (repeat (first | refine st ?_ | refine And.intro rfl ?_ | refine sc (by omega) ?_ | refine sc (by simp only [List.length_map, List.length_append, List.length_cons, List.length_nil, List.length_set, List.length_replicate, List.length_singleton] at *; omega) ?_ | refine sc (And.intro (by omega) trivial) ?_ | refine sc (And.intro rfl (Nat.le_of_ble_eq_true rfl)) ?_ | refine sc (And.intro (by simp only [List.length_map, List.length_append, List.length_cons, List.length_nil, List.length_set, List.length_replicate, List.length_singleton] at *; omega) trivial) ?_ | refine sc (fun _ => trivial) ?_ | refine And.intro (fun _ => rfl) ?_ | refine sc (fun _ => And.intro (by omega) trivial) ?_))
      rw [getD_map' hi1]
      refine cs (fun h2 => ?_) (fun h2 => ?_)
      · (repeat (first | refine st ?_ | refine And.intro rfl ?_ | refine sc (by omega) ?_ | refine sc (by simp only [List.length_map, List.length_append, List.length_cons, List.length_nil, List.length_set, List.length_replicate, List.length_singleton] at *; omega) ?_ | refine sc (And.intro (by omega) trivial) ?_ | refine sc (And.intro rfl (Nat.le_of_ble_eq_true rfl)) ?_ | refine sc (And.intro (by simp only [List.length_map, List.length_append, List.length_cons, List.length_nil, List.length_set, List.length_replicate, List.length_singleton] at *; omega) trivial) ?_ | refine sc (fun _ => trivial) ?_ | refine And.intro (fun _ => rfl) ?_ | refine sc (fun _ => And.intro (by omega) trivial) ?_))
        rw [getD_map' hi1, fn_itv]
        (repeat (first | refine st ?_ | refine And.intro rfl ?_ | refine sc (by omega) ?_ | refine sc (by simp only [List.length_map, List.length_append, List.length_cons, List.length_nil, List.length_set, List.length_replicate, List.length_singleton] at *; omega) ?_ | refine sc (And.intro (by omega) trivial) ?_ | refine sc (And.intro rfl (Nat.le_of_ble_eq_true rfl)) ?_ | refine sc (And.intro (by simp only [List.length_map, List.length_append, List.length_cons, List.length_nil, List.length_set, List.length_replicate, List.length_singleton] at *; omega) trivial) ?_ | refine sc (fun _ => trivial) ?_ | refine And.intro (fun _ => rfl) ?_ | refine sc (fun _ => And.intro (by omega) trivial) ?_))
        intro v
        (repeat (first | refine st ?_ | refine And.intro rfl ?_ | refine sc (by omega) ?_ | refine sc (by simp only [List.length_map, List.length_append, List.length_cons, List.length_nil, List.length_set, List.length_replicate, List.length_singleton] at *; omega) ?_ | refine sc (And.intro (by omega) trivial) ?_ | refine sc (And.intro rfl (Nat.le_of_ble_eq_true rfl)) ?_ | refine sc (And.intro (by simp only [List.length_map, List.length_append, List.length_cons, List.length_nil, List.length_set, List.length_replicate, List.length_singleton] at *; omega) trivial) ?_ | refine sc (fun _ => trivial) ?_ | refine And.intro (fun _ => rfl) ?_ | refine sc (fun _ => And.intro (by omega) trivial) ?_))
        rw [getD_map' hi1, fn_itv]
        have e : itAt (g.it.getD i default) = vr (g.it.getD i default).cap 24 cPtr (pt g.s0.p) := by unfold itAt; rw [ht h2]
        refine ent_take (A := bg itAt g.it) (bg_at hi1 ?_)
        rw [e]
        refine ent_take (A := cacheAt g.s0.p g.s0.m) (ent_take (A := vr (g.it.getD i default).cap 24 cPtr (pt g.s0.p)) (ent_take (A := vr v 60 cSl Sl.nil) (range10_ok hI.r0.rl.len hI.r0.rl.le fun s2 r => ?_)))
        show Ent _ (drw _)
        (repeat (first | refine st ?_ | refine And.intro rfl ?_ | refine sc (by omega) ?_ | refine sc (by simp only [List.length_map, List.length_append, List.length_cons, List.length_nil, List.length_set, List.length_replicate, List.length_singleton] at *; omega) ?_ | refine sc (And.intro (by omega) trivial) ?_ | refine sc (And.intro rfl (Nat.le_of_ble_eq_true rfl)) ?_ | refine sc (And.intro (by simp only [List.length_map, List.length_append, List.length_cons, List.length_nil, List.length_set, List.length_replicate, List.length_singleton] at *; omega) trivial) ?_ | refine sc (fun _ => trivial) ?_ | refine And.intro (fun _ => rfl) ?_ | refine sc (fun _ => And.intro (by omega) trivial) ?_))
        rw [show (wv g a b s o n).r.get 0 = pt g.s0.q from rfl]
        refine ent_take (A := refAt g.s0.q g.s0.r) (ref_open fun sr => ?_)
        (repeat (first | refine st ?_ | refine And.intro rfl ?_ | refine sc (by omega) ?_ | refine sc (by simp only [List.length_map, List.length_append, List.length_cons, List.length_nil, List.length_set, List.length_replicate, List.length_singleton] at *; omega) ?_ | refine sc (And.intro (by omega) trivial) ?_ | refine sc (And.intro rfl (Nat.le_of_ble_eq_true rfl)) ?_ | refine sc (And.intro (by simp only [List.length_map, List.length_append, List.length_cons, List.length_nil, List.length_set, List.length_replicate, List.length_singleton] at *; omega) trivial) ?_ | refine sc (fun _ => trivial) ?_ | refine And.intro (fun _ => rfl) ?_ | refine sc (fun _ => And.intro (by omega) trivial) ?_))
        have hll := hI.r0.rl.length
        refine plain_ok (l := lst g.s0.m) (by omega) fun s3 => ?_
        (repeat (first | refine st ?_ | refine And.intro rfl ?_ | refine sc (by omega) ?_ | refine sc (by simp only [List.length_map, List.length_append, List.length_cons, List.length_nil, List.length_set, List.length_replicate, List.length_singleton] at *; omega) ?_ | refine sc (And.intro (by omega) trivial) ?_ | refine sc (And.intro rfl (Nat.le_of_ble_eq_true rfl)) ?_ | refine sc (And.intro (by simp only [List.length_map, List.length_append, List.length_cons, List.length_nil, List.length_set, List.length_replicate, List.length_singleton] at *; omega) trivial) ?_ | refine sc (fun _ => trivial) ?_ | refine And.intro (fun _ => rfl) ?_ | refine sc (fun _ => And.intro (by omega) trivial) ?_))
        refine same_ok (l1 := (lst g.s0.m).map toR) (l2 := g.s0.r.list) (by rw [List.length_map]; omega) (fun _ => ?_) (fun hc => absurd hI.r0.rl.lst.symm hc)
        unfold nf10_2
        (repeat (first | refine st ?_ | refine And.intro rfl ?_ | refine sc (by omega) ?_ | refine sc (by simp only [List.length_map, List.length_append, List.length_cons, List.length_nil, List.length_set, List.length_replicate, List.length_singleton] at *; omega) ?_ | refine sc (And.intro (by omega) trivial) ?_ | refine sc (And.intro rfl (Nat.le_of_ble_eq_true rfl)) ?_ | refine sc (And.intro (by simp only [List.length_map, List.length_append, List.length_cons, List.length_nil, List.length_set, List.length_replicate, List.length_singleton] at *; omega) trivial) ?_ | refine sc (fun _ => trivial) ?_ | refine And.intro (fun _ => rfl) ?_ | refine sc (fun _ => And.intro (by omega) trivial) ?_))
        refine ent_take (A := sl S_wicketref17_Entry.c 76 sr g.s0.r.list) (ent_take (A := vr g.s0.q 72 S_wicketref17_Cache.c ⟨g.s0.r.blocks, sr, g.s0.r.some, g.s0.r.last⟩) (ref_shut (m := g.s0.r) ?_))
        refine ent_take (A := bg itAt (g.it.eraseIdx i)) (ent_take (A := vr (g.it.getD i default).cap 24 cPtr (pt g.s0.p)) ?_)
        rw [← e]
        refine bg_back hi1 ?_
        refine ent_take (A := bg dfr mk) (ent_take (A := dfr r) (bg_push ?_))
        have h9 := hK (i + 1, r :: mk) (by show i + 1 ≤ _; omega) (by show _ - (i + 1) < _; omega)
        dsimp only at h9
        exact inc h9
      · (repeat (first | refine st ?_ | refine And.intro rfl ?_ | refine sc (by omega) ?_ | refine sc (by simp only [List.length_map, List.length_append, List.length_cons, List.length_nil, List.length_set, List.length_replicate, List.length_singleton] at *; omega) ?_ | refine sc (And.intro (by omega) trivial) ?_ | refine sc (And.intro rfl (Nat.le_of_ble_eq_true rfl)) ?_ | refine sc (And.intro (by simp only [List.length_map, List.length_append, List.length_cons, List.length_nil, List.length_set, List.length_replicate, List.length_singleton] at *; omega) trivial) ?_ | refine sc (fun _ => trivial) ?_ | refine And.intro (fun _ => rfl) ?_ | refine sc (fun _ => And.intro (by omega) trivial) ?_))
        unfold nf10_2
        (repeat (first | refine st ?_ | refine And.intro rfl ?_ | refine sc (by omega) ?_ | refine sc (by simp only [List.length_map, List.length_append, List.length_cons, List.length_nil, List.length_set, List.length_replicate, List.length_singleton] at *; omega) ?_ | refine sc (And.intro (by omega) trivial) ?_ | refine sc (And.intro rfl (Nat.le_of_ble_eq_true rfl)) ?_ | refine sc (And.intro (by simp only [List.length_map, List.length_append, List.length_cons, List.length_nil, List.length_set, List.length_replicate, List.length_singleton] at *; omega) trivial) ?_ | refine sc (fun _ => trivial) ?_ | refine And.intro (fun _ => rfl) ?_ | refine sc (fun _ => And.intro (by omega) trivial) ?_))
        have h9 := hK (i + 1, mk) (by show i + 1 ≤ _; omega) (by show _ - (i + 1) < _; omega)
        dsimp only at h9
        exact inc h9
    · rw [ho]
      (repeat (first | refine st ?_ | refine And.intro rfl ?_ | refine sc (by omega) ?_ | refine sc (by simp only [List.length_map, List.length_append, List.length_cons, List.length_nil, List.length_set, List.length_replicate, List.length_singleton] at *; omega) ?_ | refine sc (And.intro (by omega) trivial) ?_ | refine sc (And.intro rfl (Nat.le_of_ble_eq_true rfl)) ?_ | refine sc (And.intro (by simp only [List.length_map, List.length_append, List.length_cons, List.length_nil, List.length_set, List.length_replicate, List.length_singleton] at *; omega) trivial) ?_ | refine sc (fun _ => trivial) ?_ | refine And.intro (fun _ => rfl) ?_ | refine sc (fun _ => And.intro (by omega) trivial) ?_))
      rw [getD_map' hi1]
      refine cs (fun h2 => ?_) (fun h2 => ?_)
      · (repeat (first | refine st ?_ | refine And.intro rfl ?_ | refine sc (by omega) ?_ | refine sc (by simp only [List.length_map, List.length_append, List.length_cons, List.length_nil, List.length_set, List.length_replicate, List.length_singleton] at *; omega) ?_ | refine sc (And.intro (by omega) trivial) ?_ | refine sc (And.intro rfl (Nat.le_of_ble_eq_true rfl)) ?_ | refine sc (And.intro (by simp only [List.length_map, List.length_append, List.length_cons, List.length_nil, List.length_set, List.length_replicate, List.length_singleton] at *; omega) trivial) ?_ | refine sc (fun _ => trivial) ?_ | refine And.intro (fun _ => rfl) ?_ | refine sc (fun _ => And.intro (by omega) trivial) ?_))
        rw [getD_map' hi1, fn_itv]
        (repeat (first | refine st ?_ | refine And.intro rfl ?_ | refine sc (by omega) ?_ | refine sc (by simp only [List.length_map, List.length_append, List.length_cons, List.length_nil, List.length_set, List.length_replicate, List.length_singleton] at *; omega) ?_ | refine sc (And.intro (by omega) trivial) ?_ | refine sc (And.intro rfl (Nat.le_of_ble_eq_true rfl)) ?_ | refine sc (And.intro (by simp only [List.length_map, List.length_append, List.length_cons, List.length_nil, List.length_set, List.length_replicate, List.length_singleton] at *; omega) trivial) ?_ | refine sc (fun _ => trivial) ?_ | refine And.intro (fun _ => rfl) ?_ | refine sc (fun _ => And.intro (by omega) trivial) ?_))
        intro v
        (repeat (first | refine st ?_ | refine And.intro rfl ?_ | refine sc (by omega) ?_ | refine sc (by simp only [List.length_map, List.length_append, List.length_cons, List.length_nil, List.length_set, List.length_replicate, List.length_singleton] at *; omega) ?_ | refine sc (And.intro (by omega) trivial) ?_ | refine sc (And.intro rfl (Nat.le_of_ble_eq_true rfl)) ?_ | refine sc (And.intro (by simp only [List.length_map, List.length_append, List.length_cons, List.length_nil, List.length_set, List.length_replicate, List.length_singleton] at *; omega) trivial) ?_ | refine sc (fun _ => trivial) ?_ | refine And.intro (fun _ => rfl) ?_ | refine sc (fun _ => And.intro (by omega) trivial) ?_))
        rw [getD_map' hi1, fn_itv]
        have e : itAt (g.it.getD i default) = vr (g.it.getD i default).cap 24 cPtr (pt g.s1.p) := by unfold itAt; rw [ht h2]
        refine ent_take (A := bg itAt g.it) (bg_at hi1 ?_)
        rw [e]
        refine ent_take (A := cacheAt g.s1.p g.s1.m) (ent_take (A := vr (g.it.getD i default).cap 24 cPtr (pt g.s1.p)) (ent_take (A := vr v 60 cSl Sl.nil) (range10_ok hI.r1.rl.len hI.r1.rl.le fun s2 r => ?_)))
        show Ent _ (drw _)
        (repeat (first | refine st ?_ | refine And.intro rfl ?_ | refine sc (by omega) ?_ | refine sc (by simp only [List.length_map, List.length_append, List.length_cons, List.length_nil, List.length_set, List.length_replicate, List.length_singleton] at *; omega) ?_ | refine sc (And.intro (by omega) trivial) ?_ | refine sc (And.intro rfl (Nat.le_of_ble_eq_true rfl)) ?_ | refine sc (And.intro (by simp only [List.length_map, List.length_append, List.length_cons, List.length_nil, List.length_set, List.length_replicate, List.length_singleton] at *; omega) trivial) ?_ | refine sc (fun _ => trivial) ?_ | refine And.intro (fun _ => rfl) ?_ | refine sc (fun _ => And.intro (by omega) trivial) ?_))
        rw [show (wv g a b s o n).r.get 1 = pt g.s1.q from rfl]
        refine ent_take (A := refAt g.s1.q g.s1.r) (ref_open fun sr => ?_)
        (repeat (first | refine st ?_ | refine And.intro rfl ?_ | refine sc (by omega) ?_ | refine sc (by simp only [List.length_map, List.length_append, List.length_cons, List.length_nil, List.length_set, List.length_replicate, List.length_singleton] at *; omega) ?_ | refine sc (And.intro (by omega) trivial) ?_ | refine sc (And.intro rfl (Nat.le_of_ble_eq_true rfl)) ?_ | refine sc (And.intro (by simp only [List.length_map, List.length_append, List.length_cons, List.length_nil, List.length_set, List.length_replicate, List.length_singleton] at *; omega) trivial) ?_ | refine sc (fun _ => trivial) ?_ | refine And.intro (fun _ => rfl) ?_ | refine sc (fun _ => And.intro (by omega) trivial) ?_))
        have hll := hI.r1.rl.length
        refine plain_ok (l := lst g.s1.m) (by omega) fun s3 => ?_
        (repeat (first | refine st ?_ | refine And.intro rfl ?_ | refine sc (by omega) ?_ | refine sc (by simp only [List.length_map, List.length_append, List.length_cons, List.length_nil, List.length_set, List.length_replicate, List.length_singleton] at *; omega) ?_ | refine sc (And.intro (by omega) trivial) ?_ | refine sc (And.intro rfl (Nat.le_of_ble_eq_true rfl)) ?_ | refine sc (And.intro (by simp only [List.length_map, List.length_append, List.length_cons, List.length_nil, List.length_set, List.length_replicate, List.length_singleton] at *; omega) trivial) ?_ | refine sc (fun _ => trivial) ?_ | refine And.intro (fun _ => rfl) ?_ | refine sc (fun _ => And.intro (by omega) trivial) ?_))
        refine same_ok (l1 := (lst g.s1.m).map toR) (l2 := g.s1.r.list) (by rw [List.length_map]; omega) (fun _ => ?_) (fun hc => absurd hI.r1.rl.lst.symm hc)
        unfold nf10_2
        (repeat (first | refine st ?_ | refine And.intro rfl ?_ | refine sc (by omega) ?_ | refine sc (by simp only [List.length_map, List.length_append, List.length_cons, List.length_nil, List.length_set, List.length_replicate, List.length_singleton] at *; omega) ?_ | refine sc (And.intro (by omega) trivial) ?_ | refine sc (And.intro rfl (Nat.le_of_ble_eq_true rfl)) ?_ | refine sc (And.intro (by simp only [List.length_map, List.length_append, List.length_cons, List.length_nil, List.length_set, List.length_replicate, List.length_singleton] at *; omega) trivial) ?_ | refine sc (fun _ => trivial) ?_ | refine And.intro (fun _ => rfl) ?_ | refine sc (fun _ => And.intro (by omega) trivial) ?_))
        refine ent_take (A := sl S_wicketref17_Entry.c 76 sr g.s1.r.list) (ent_take (A := vr g.s1.q 72 S_wicketref17_Cache.c ⟨g.s1.r.blocks, sr, g.s1.r.some, g.s1.r.last⟩) (ref_shut (m := g.s1.r) ?_))
        refine ent_take (A := bg itAt (g.it.eraseIdx i)) (ent_take (A := vr (g.it.getD i default).cap 24 cPtr (pt g.s1.p)) ?_)
        rw [← e]
        refine bg_back hi1 ?_
        refine ent_take (A := bg dfr mk) (ent_take (A := dfr r) (bg_push ?_))
        have h9 := hK (i + 1, r :: mk) (by show i + 1 ≤ _; omega) (by show _ - (i + 1) < _; omega)
        dsimp only at h9
        exact inc h9
      · (repeat (first | refine st ?_ | refine And.intro rfl ?_ | refine sc (by omega) ?_ | refine sc (by simp only [List.length_map, List.length_append, List.length_cons, List.length_nil, List.length_set, List.length_replicate, List.length_singleton] at *; omega) ?_ | refine sc (And.intro (by omega) trivial) ?_ | refine sc (And.intro rfl (Nat.le_of_ble_eq_true rfl)) ?_ | refine sc (And.intro (by simp only [List.length_map, List.length_append, List.length_cons, List.length_nil, List.length_set, List.length_replicate, List.length_singleton] at *; omega) trivial) ?_ | refine sc (fun _ => trivial) ?_ | refine And.intro (fun _ => rfl) ?_ | refine sc (fun _ => And.intro (by omega) trivial) ?_))
        unfold nf10_2
        (repeat (first | refine st ?_ | refine And.intro rfl ?_ | refine sc (by omega) ?_ | refine sc (by simp only [List.length_map, List.length_append, List.length_cons, List.length_nil, List.length_set, List.length_replicate, List.length_singleton] at *; omega) ?_ | refine sc (And.intro (by omega) trivial) ?_ | refine sc (And.intro rfl (Nat.le_of_ble_eq_true rfl)) ?_ | refine sc (And.intro (by simp only [List.length_map, List.length_append, List.length_cons, List.length_nil, List.length_set, List.length_replicate, List.length_singleton] at *; omega) trivial) ?_ | refine sc (fun _ => trivial) ?_ | refine And.intro (fun _ => rfl) ?_ | refine sc (fun _ => And.intro (by omega) trivial) ?_))
        have h9 := hK (i + 1, mk) (by show i + 1 ≤ _; omega) (by show _ - (i + 1) < _; omega)
        dsimp only at h9
        exact inc h9
  · (repeat (first | refine st ?_ | refine And.intro rfl ?_ | refine sc (by omega) ?_ | refine sc (by simp only [List.length_map, List.length_append, List.length_cons, List.length_nil, List.length_set, List.length_replicate, List.length_singleton] at *; omega) ?_ | refine sc (And.intro (by omega) trivial) ?_ | refine sc (And.intro rfl (Nat.le_of_ble_eq_true rfl)) ?_ | refine sc (And.intro (by simp only [List.length_map, List.length_append, List.length_cons, List.length_nil, List.length_set, List.length_replicate, List.length_singleton] at *; omega) trivial) ?_ | refine sc (fun _ => trivial) ?_ | refine And.intro (fun _ => rfl) ?_ | refine sc (fun _ => And.intro (by omega) trivial) ?_))
    refine ent_endMs ?_
    (repeat (first | refine st ?_ | refine And.intro rfl ?_ | refine sc (by omega) ?_ | refine sc (by simp only [List.length_map, List.length_append, List.length_cons, List.length_nil, List.length_set, List.length_replicate, List.length_singleton] at *; omega) ?_ | refine sc (And.intro (by omega) trivial) ?_ | refine sc (And.intro rfl (Nat.le_of_ble_eq_true rfl)) ?_ | refine sc (And.intro (by simp only [List.length_map, List.length_append, List.length_cons, List.length_nil, List.length_set, List.length_replicate, List.length_singleton] at *; omega) trivial) ?_ | refine sc (fun _ => trivial) ?_ | refine And.intro (fun _ => rfl) ?_ | refine sc (fun _ => And.intro (by omega) trivial) ?_))
    exact ent_drop (w_shut (inc h))
end Go.Proofs.YtmnokpffpadgoaaDoor
