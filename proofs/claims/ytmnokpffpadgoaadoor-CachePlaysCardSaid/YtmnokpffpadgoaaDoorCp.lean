/- The world of a script: its pieces; keep. -/
import Derived.Test.YtmnokpffpadgoaaDoorCq
import Derived.Test.YtmnokpffpadgoaaDoorDnT
namespace Go.Proofs.YtmnokpffpadgoaaDoor
set_option linter.unusedSimpArgs false
set_option linter.unusedVariables false
open Go.Dn
set_option linter.unusedSectionVars false
set_option synthInstance.maxSize 10000
set_option synthInstance.maxHeartbeats 400000
set_option maxHeartbeats 2000000
variable [sd : Side]
abbrev pt (p : Nat) : Option Addr := some ⟨p, 0, none⟩
structure SD where
  p : Nat
  m : CM
  q : Nat
  r : RM
structure HL where
  s : Sl
  w : Sl
  xs : List E
instance : Inhabited HL := ⟨⟨Sl.nil, Sl.nil, []⟩⟩
structure IT where
  cap : Nat
  tgt : Nat
  of : Int
  born : Int
instance : Inhabited IT := ⟨⟨0, 0, 0, 0⟩⟩
structure GW where
  s0 : SD
  s1 : SD
  g0 : Int
  g1 : Int
  hl : List HL
  it : List IT
def itv (x : IT) : Fv := mkF (.func 30) #[] #[.pointer (pt x.cap)]
abbrev wv (g : GW) (a b s o n : Sl) : S_wicketlaw17_world := ⟨⟨[pt g.s0.p, pt g.s1.p], rfl⟩, ⟨[pt g.s0.q, pt g.s1.q], rfl⟩, a, b, s, o, ⟨[g.g0, g.g1], rfl⟩, n⟩
def hlAt (x : HL) : HProp := fun h => stars [sl S_cache_Entry.c 57 x.s x.xs, sl S_wicketref17_Entry.c 76 x.w (x.xs.map toR)] h
def itAt (x : IT) : HProp := vr x.cap 24 cPtr (pt x.tgt)
def wAt (p : Nat) (g : GW) : HProp := fun h => ∃ a b s o n, stars [vr p 42 S_wicketlaw17_world.c (wv g a b s o n), sl cSl 60 a (g.hl.map (·.s)), sl cSl 46 b (g.hl.map (·.w)), sl cFn 84 s (g.it.map itv), sl (cInt .i64) 3 o (g.it.map (·.of)), sl (cInt .i64) 3 n (g.it.map (·.born)),
  bg hlAt g.hl, bg itAt g.it, cacheAt g.s0.p g.s0.m, refAt g.s0.q g.s0.r, cacheAt g.s1.p g.s1.m, refAt g.s1.q g.s1.r] h
theorem w_open {p : Nat} {g : GW} {F : List HProp} {φ : W} (h : ∀ a b s o n, Ent (vr p 42 S_wicketlaw17_world.c (wv g a b s o n) :: sl cSl 60 a (g.hl.map (·.s)) :: sl cSl 46 b (g.hl.map (·.w)) :: sl cFn 84 s (g.it.map itv) :: sl (cInt .i64) 3 o (g.it.map (·.of)) :: sl (cInt .i64) 3 n (g.it.map (·.born)) ::
  bg hlAt g.hl :: bg itAt g.it :: cacheAt g.s0.p g.s0.m :: refAt g.s0.q g.s0.r :: cacheAt g.s1.p g.s1.m :: refAt g.s1.q g.s1.r :: F) φ) : Ent (wAt p g :: F) φ :=
  ent_ex fun a => ent_ex fun b => ent_ex fun s => ent_ex fun o => ent_ex fun n => ent_open (M := [_, _, _, _, _, _, _, _, _, _, _, _]) (fun _ h => h) (h a b s o n)
theorem w_shut {p : Nat} {g : GW} {F : List HProp} {φ : W} {a b s o n : Sl} (h : Ent (wAt p g :: F) φ) : Ent (vr p 42 S_wicketlaw17_world.c (wv g a b s o n) :: sl cSl 60 a (g.hl.map (·.s)) :: sl cSl 46 b (g.hl.map (·.w)) :: sl cFn 84 s (g.it.map itv) :: sl (cInt .i64) 3 o (g.it.map (·.of)) :: sl (cInt .i64) 3 n (g.it.map (·.born)) ::
  bg hlAt g.hl :: bg itAt g.it :: cacheAt g.s0.p g.s0.m :: refAt g.s0.q g.s0.r :: cacheAt g.s1.p g.s1.m :: refAt g.s1.q g.s1.r :: F) φ :=
  ent_shut (M := [_, _, _, _, _, _, _, _, _, _, _, _]) (fun _ h => ⟨a, b, s, o, n, h⟩) h
theorem hl_open {x : HL} {F : List HProp} {φ : W} (h : Ent (sl S_cache_Entry.c 57 x.s x.xs :: sl S_wicketref17_Entry.c 76 x.w (x.xs.map toR) :: F) φ) : Ent (hlAt x :: F) φ := ent_open (M := [_, _]) (fun _ h => h) h
theorem hl_shut {x : HL} {F : List HProp} {φ : W} (h : Ent (hlAt x :: F) φ) : Ent (sl S_cache_Entry.c 57 x.s x.xs :: sl S_wicketref17_Entry.c 76 x.w (x.xs.map toR) :: F) φ := ent_shut (M := [_, _]) (fun _ h => h) h
theorem keep_ok {p : Nat} {x : S_wicketlaw17_world} {ls ws : List Sl} {sx : Sl} {xs : List E} {K : Value → W} {F : List HProp} (h1 : ls.length ≤ 1000) (h2 : ws.length ≤ 1000) (h3 : xs.length ≤ 64)
    (h : ∀ a b sw, Ent (vr p 42 S_wicketlaw17_world.c { x with lists := a, were := b } :: sl cSl 60 a (ls ++ [sx]) :: sl cSl 46 b (ws ++ [sw]) :: sl S_cache_Entry.c 57 sx xs :: sl S_wicketref17_Entry.c 76 sw (xs.map toR) :: F) (K (.tuple #[]))) :
    Ent (vr p 42 S_wicketlaw17_world.c x :: sl cSl 60 x.lists ls :: sl cSl 46 x.were ws :: sl S_cache_Entry.c 57 sx xs :: F) (callC Tryd.prog 27 [.pointer (pt p), sv sx] K) := by
  refine ent_mono ?_ fun w => nf27_ok
  unfold nf27
  (repeat (first | refine st ?_ | refine And.intro rfl ?_ | refine sc (by omega) ?_ | refine sc (by simp only [List.length_map, List.length_append, List.length_cons, List.length_nil, List.length_set, List.length_replicate, List.length_singleton] at *; omega) ?_ | refine sc (And.intro (by omega) trivial) ?_ | refine sc (And.intro rfl (Nat.le_of_ble_eq_true rfl)) ?_ | refine sc (And.intro (by simp only [List.length_map, List.length_append, List.length_cons, List.length_nil, List.length_set, List.length_replicate, List.length_singleton] at *; omega) trivial) ?_ | refine sc (fun _ => trivial) ?_ | refine And.intro (fun _ => rfl) ?_ | refine sc (fun _ => And.intro (by omega) trivial) ?_))
  intro s1
  (repeat (first | refine st ?_ | refine And.intro rfl ?_ | refine sc (by omega) ?_ | refine sc (by simp only [List.length_map, List.length_append, List.length_cons, List.length_nil, List.length_set, List.length_replicate, List.length_singleton] at *; omega) ?_ | refine sc (And.intro (by omega) trivial) ?_ | refine sc (And.intro rfl (Nat.le_of_ble_eq_true rfl)) ?_ | refine sc (And.intro (by simp only [List.length_map, List.length_append, List.length_cons, List.length_nil, List.length_set, List.length_replicate, List.length_singleton] at *; omega) trivial) ?_ | refine sc (fun _ => trivial) ?_ | refine And.intro (fun _ => rfl) ?_ | refine sc (fun _ => And.intro (by omega) trivial) ?_))
  intro s2
  (repeat (first | refine st ?_ | refine And.intro rfl ?_ | refine sc (by omega) ?_ | refine sc (by simp only [List.length_map, List.length_append, List.length_cons, List.length_nil, List.length_set, List.length_replicate, List.length_singleton] at *; omega) ?_ | refine sc (And.intro (by omega) trivial) ?_ | refine sc (And.intro rfl (Nat.le_of_ble_eq_true rfl)) ?_ | refine sc (And.intro (by simp only [List.length_map, List.length_append, List.length_cons, List.length_nil, List.length_set, List.length_replicate, List.length_singleton] at *; omega) trivial) ?_ | refine sc (fun _ => trivial) ?_ | refine And.intro (fun _ => rfl) ?_ | refine sc (fun _ => And.intro (by omega) trivial) ?_))
  refine plain_ok (l := xs) (by omega) fun s3 => ?_
  (repeat (first | refine st ?_ | refine And.intro rfl ?_ | refine sc (by omega) ?_ | refine sc (by simp only [List.length_map, List.length_append, List.length_cons, List.length_nil, List.length_set, List.length_replicate, List.length_singleton] at *; omega) ?_ | refine sc (And.intro (by omega) trivial) ?_ | refine sc (And.intro rfl (Nat.le_of_ble_eq_true rfl)) ?_ | refine sc (And.intro (by simp only [List.length_map, List.length_append, List.length_cons, List.length_nil, List.length_set, List.length_replicate, List.length_singleton] at *; omega) trivial) ?_ | refine sc (fun _ => trivial) ?_ | refine And.intro (fun _ => rfl) ?_ | refine sc (fun _ => And.intro (by omega) trivial) ?_))
  intro s4
  (repeat (first | refine st ?_ | refine And.intro rfl ?_ | refine sc (by omega) ?_ | refine sc (by simp only [List.length_map, List.length_append, List.length_cons, List.length_nil, List.length_set, List.length_replicate, List.length_singleton] at *; omega) ?_ | refine sc (And.intro (by omega) trivial) ?_ | refine sc (And.intro rfl (Nat.le_of_ble_eq_true rfl)) ?_ | refine sc (And.intro (by simp only [List.length_map, List.length_append, List.length_cons, List.length_nil, List.length_set, List.length_replicate, List.length_singleton] at *; omega) trivial) ?_ | refine sc (fun _ => trivial) ?_ | refine And.intro (fun _ => rfl) ?_ | refine sc (fun _ => And.intro (by omega) trivial) ?_))
  intro s5
  (repeat (first | refine st ?_ | refine And.intro rfl ?_ | refine sc (by omega) ?_ | refine sc (by simp only [List.length_map, List.length_append, List.length_cons, List.length_nil, List.length_set, List.length_replicate, List.length_singleton] at *; omega) ?_ | refine sc (And.intro (by omega) trivial) ?_ | refine sc (And.intro rfl (Nat.le_of_ble_eq_true rfl)) ?_ | refine sc (And.intro (by simp only [List.length_map, List.length_append, List.length_cons, List.length_nil, List.length_set, List.length_replicate, List.length_singleton] at *; omega) trivial) ?_ | refine sc (fun _ => trivial) ?_ | refine And.intro (fun _ => rfl) ?_ | refine sc (fun _ => And.intro (by omega) trivial) ?_))
  exact inc (h s2 s5 s3)
end Go.Proofs.YtmnokpffpadgoaaDoor
