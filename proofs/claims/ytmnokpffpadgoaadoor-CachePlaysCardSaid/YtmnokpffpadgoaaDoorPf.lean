/- Proved here: whatever the input, the statement CachePlays returns true and its arguments read behind the call as before; the package variable that it reads is tied to the program's text. Conditions: the variable wicketlaw17.mark reads when the call begins as the program's text lays it (the card's own tie). -/
import Derived.Test.YtmnokpffpadgoaaDoorRows
import Derived.Test.YtmnokpffpadgoaaDoorTie
import Derived.Test.YtmnokpffpadgoaaDoorCards
import Derived.Test.YtmnokpffpadgoaaDoorRd
import Derived.Test.YtmnokpffpadgoaaDoorCz
import Derived.ProofKit
import Derived.LaidMore
import Derived.OpenShut
import Derived.Stop.Joined
import Derived.SevenTiedAt
namespace Go.Proofs.YtmnokpffpadgoaaDoor
set_option linter.unusedSimpArgs false
set_option linter.unusedVariables false
open Go.ChangeShapes Go.WideShapes Go.ChangeAt Go.RowKit
open Go.Dn
theorem Tryd.own : ownKnob Tryd.prog.godebug = none := by kernel_rfl
theorem Tryd.laidOut : laidOutB Tryd.prog = true := by kernel_rfl
theorem gMark : Tryd.prog.globalNamed "wicket/wicketlaw17.mark" = some 0 := by kernel_rfl
theorem tMark : (Tryd.prog.globals[0]?).map (·.type) = some 57 := by kernel_rfl
abbrev laid1 : List (String × DataW Unit) := [("wicket/wicketlaw17.mark", Rows.laid_wicket_wicketlaw17_mark)]
theorem door_met (os : Os) (args : Array Value) : laidMetH Tryd.prog laid1 ((World.doorLaid Tryd.prog 400 os).forCall (fun _ _ => 0) ⟨#[], args, []⟩).memory :=
  laidMetH_of_parts3 (fuel := 8) (laidMet_of_run' 8 (by kernel_rfl) (by kernel_rfl)) (by kernel_rfl) (by kernel_rfl)
theorem mark_of {W : World} (h : laidMetH Tryd.prog laid1 W) : VrB (hof W) 0 S_cache_Entry.c markE := by
  rw [MakeChecks.laidMetH_plain _ _ _ (by kernel_rfl)] at h
  obtain ⟨ps, ⟨g0, t0, cs0, f0, p0, q0, hg0, ht0, hv0, hd0, _, _⟩, _⟩ := h
  obtain rfl := Option.some.inj (gMark.symm.trans hg0)
  obtain rfl := Option.some.inj (tMark.symm.trans ht0)
  have hw : (Rows.laid_wicket_wicketlaw17_mark : DataW Unit).weights Tryd.prog 57 = [] := by kernel_rfl
  have rs : RdS Tryd.prog 57 S_cache_Entry.c S_cache_Entry.G := inferInstance
  obtain ⟨a, ha, _⟩ := rs.out hd0 (fun n hn => by
    have hn' : n ∈ (Rows.laid_wicket_wicketlaw17_mark : DataW Unit).weights Tryd.prog 57 := hn
    rw [hw] at hn'; cases hn')
  rw [ha] at hd0
  obtain ⟨xs, m, _, hx, hl, hn, hf⟩ := DataW.trod_struct Tryd.underlying57 hd0
  have b0 := dt_field (i := 0) (t := 3) (off := 0) (c := S_cache_Entry.c) (c' := cInt .i64) hn hf rfl rfl rfl
  have b1 := dt_field (i := 1) (t := 52) (off := 1) (c := S_cache_Entry.c) (c' := cArr 32 (cInt .u8)) hn hf rfl rfl rfl
  have b2 := dt_field (i := 2) (t := 44) (off := 33) (c := S_cache_Entry.c) (c' := cInt .u64) hn hf rfl rfl rfl
  have hx1 : (Rows.laid_wicket_wicketlaw17_mark : DataW Unit) = .agg (xs.map (·.1)) := congrArg Prod.fst hx
  unfold Rows.laid_wicket_wicketlaw17_mark at hx1
  simp only [DataW.agg.injEq] at hx1
  rw [← hx1] at b0 b1 b2
  simp only [List.getElem?_cons_zero, List.getElem?_cons_succ, Option.some.injEq, DataW.lit.injEq, Lit.int.injEq, true_and, DataW.agg.injEq] at b0 b1 b2
  obtain ⟨blk, ⟨vl, vlen⟩, pos⟩ := a
  simp only at b0 b1 b2
  subst b0 b2
  have hvl : vl = List.replicate 32 0 := by
    apply List.ext_getElem (by rw [vlen]; simp)
    intro i h1 h2
    have hi : i < 32 := by rw [← vlen]; exact h1
    have e1 : (vl.map fun n => (DataW.lit (.int .u8 n) : DataW Unit))[i]? = some (.lit (.int .u8 vl[i])) := by rw [List.getElem?_map, List.getElem?_eq_getElem h1]; rfl
    have e2 : (List.replicate 32 (DataW.lit (.int .u8 0) : DataW Unit))[i]? = some (.lit (.int .u8 0)) := by rw [List.getElem?_replicate, if_pos hi]
    have e3 : (List.replicate 32 (DataW.lit (.int .u8 0) : DataW Unit)) = vl.map fun n => (DataW.lit (.int .u8 n) : DataW Unit) := b1
    rw [e3, e1] at e2
    simp only [Option.some.injEq, DataW.lit.injEq, Lit.int.injEq, true_and] at e2
    rw [e2, List.getElem_replicate]
  subst hvl
  constructor
  unfold World.var? at hv0
  rw [gMark] at hv0
  simp only [Option.bind_some] at hv0
  split at hv0
  · rename_i cs T fz hc
    simp only [Option.some.injEq] at hv0
    subst hv0
    refine ⟨T, fz, ?_⟩
    show W.heap[0]? = _
    rw [hc, ← ha]
  · cases hv0
theorem f3_any (W : World) (a : Int) (s : Sl) (hs : GSz S_wicketlaw17_Op.c S_wicketlaw17_Op.G 80 (hof W) s) (hL : laidMetH Tryd.prog laid1 W) (sd : Side) (K : Value → Go.Dn.W) (h : Ent [Go.Dn.own (hof W)] (K (.bool true))) :
    Ent [Go.Dn.own (hof W)] (callC Tryd.prog 3 [.int .i64 a, sv s] K) := by
  obtain ⟨ops, hr, hl1, hl, hx⟩ := hs
  have vb := mark_of hL
  have rb : RdB (hof W) s S_wicketlaw17_Op.c ops := ⟨hr⟩
  refine main_ok (ops := ops) hl (fun i hi => ?_) h
  obtain ⟨_, _, _, _, ⟨im, g1, g2, _, _⟩, ⟨ls, g3, g4, _, _⟩⟩ := hx _ (getD_mem hi)
  exact ⟨im, ls, g1, by omega, g3, by omega⟩
set_option maxRecDepth 100000 in
theorem f_lifted (os : Os) (started : os.Started) (H : Type) (enc : TypeId × Value → H) :
    ReturnsInHanded {} Tryd.checked os 3 .any (fun w args => (Rows.cachePlaysSpec.pre enc Tryd.prog Tryd.f3 [] false w args ∧ laidMetH Tryd.prog laid1 w) ∧ sizedMet enc Tryd.prog Tryd.f3 (OpenSpec.ofChange Rows.cachePlaysSpec) false w args)
      (Rows.cachePlaysSpec.post enc Tryd.prog Tryd.f3 false true false false) := by
  refine returnsInHanded_of_change_and (C := Tryd.checked) (X := fun w _ => laidMetH Tryd.prog laid1 w) (fun _ _ _ hh h => h.of_heap hh) Tryd.own started (by kernel_rfl) Tryd.func3
    (ChangeSpec.witness_shaped (enc := enc) (C := Tryd.checked) (os := os) (X := fun w _ => laidMetH Tryd.prog laid1 w) false (World.doorLaid Tryd.prog 400 os) #[.int .i64 0, .slice none 0 0] 8 rfl (World.shaped_of_RefB (by kernel_rfl) (by kernel_rfl)) (by kernel_rfl) (by kernel_rfl) (by kernel_rfl) (door_met os _)) ?_
  intro W base args ds gs before hval0 hW _ hsz hL _
  have hval : ∀ (j : Nat) t v, Tryd.f3.params[j]? = some t → args[j]? = some v → Value.okWide Tryd.prog W .any base t v := hval0
  have hW' := hW
  obtain ⟨p, q, hA0, hV, _, _, _⟩ := hW
  have hA : DataW.TrodAll enc Tryd.prog W 0 (fun _ => true) true [3, 22] args.toList ds p := hA0
  obtain ⟨v0, v1, d0, d1, p0, p1, rfl, rfl, _, h0, h1⟩ := trodAll_two hA
  obtain ⟨rfl, _⟩ := trodVars_none hV
  obtain ⟨a, rfl, ga⟩ := rds_arg (c := cInt .i64) (hval 0 3 v0 rfl rfl) h0 (small_arg hsz (j := 0) rfl rfl)
  obtain ⟨b, rfl, gb⟩ := rds_arg (c := cSl) (hval 1 22 v1 rfl rfl) h1 (small_arg hsz (j := 1) rfl rfl)
  refine (outer_calls (P := Tryd.prog) (Q := fun v => v = .bool true) fun sd K h => f3_any W a b gb hL sd K (h _ rfl)).mono fun e W' ⟨v, he, hv, hb⟩ => ⟨v, he, ?_⟩
  subst hv
  exact post_true Tryd.laidOut hW' rfl (tb := 4) rfl Tryd.underlying4 (by decide +kernel) rfl hb
theorem f_row : Rows.CachePlaysSaid :=
  OpenClaim.holds_of_wide 3 Tryd.f3 rfl rfl rfl rfl rfl rfl rfl ⟨rfl, rfl, rfl, rfl, rfl⟩ rfl rfl rfl rfl rfl (by kernel_rfl) Tryd.func3 (by kernel_rfl)
    (of_decide_eq_true (by kernel_rfl)) (by unfold Func.isWrapper; first | (rw [if_pos (by decide +kernel)]; kernel_rfl) | (rw [if_neg (by decide +kernel)]; exact ⟨rfl, rfl⟩))
    (fun os started H enc _ => f_lifted os started H enc)
theorem f_holds : Rows.CachePlaysCardSaid :=
  Claim7.holds_tied_plain_at .later [] [.data] true (true, "93bd08d9029926b8823952b52d81ab2d35025ca4e07d5b4b3e8f67c156309ffc") false
    f_row (fun _ h => by cases h) (by kernel_rfl) (fun _ h => by cases h) cachePlays_row_tie rfl ⟨rfl, rfl⟩ (by kernel_rfl) rfl
    (fun f fn hf hfn => by
      obtain rfl : f = 3 := Option.some.inj ((show Tryd.prog.funcNamed "wicket/wicketlaw17.CachePlays" = some 3 by kernel_rfl).symm.trans hf) |>.symm
      obtain rfl : fn = Tryd.f3 := (Option.some.inj (Tryd.func3.symm.trans hfn)).symm
      exact ⟨by kernel_rfl, fun j t ht => by
        rw [show Tryd.f3.params = #[3, 22] from rfl] at ht
        have hm : t ∈ [3, 22] := by simpa using Array.mem_of_getElem? ht
        have hall : ([3, 22].all fun u => !Tryd.prog.wantsStandIn u) = true := by kernel_rfl
        exact (show Tryd.prog.wantsStandIn t = false by simpa using List.all_eq_true.1 hall t hm)⟩)
    (by kernel_rfl)
end Go.Proofs.YtmnokpffpadgoaaDoor
