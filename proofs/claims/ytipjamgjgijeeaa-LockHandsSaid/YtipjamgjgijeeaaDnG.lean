/-
  Own framework, part G: how a function's clean form is used.
  Conditions: none; general over any program.
-/
import Derived.Test.YtipjamgjgijeeaaDnF
namespace Go.Dn
set_option linter.unusedSimpArgs false
set_option linter.unusedVariables false
variable {P : Program}
def bodyOf (fn : Func) : Code := match fn.body with
  | some c => c
  | none => .refuse "no body"
theorem callOf {f : FuncId} {fn : Func} {lv : List (Nat × Nat)} {args : List Value} {R : Value → W} {w : World} {nf : W} (hmix : P.follows .mixedOrders = true)
    (hf : P.funcs[f]? = some fn) (hb : fn.body.isSome = true) (hfit : fitsB fn.ntmps (bodyOf fn) = true) (ha : Nat.ble args.length fn.ntmps = true) (hn : (fn.name != "runtime.NumGoroutine") = true)
    (heq : denF P lv fn.ntmps fn.results.toList (bodyOf fn) args R = nf) (h : nf w) : callC P f args R w := by
  obtain ⟨c, hc⟩ := Option.isSome_iff_exists.1 hb
  have hbo : bodyOf fn = c := by unfold bodyOf; rw [hc]
  refine .inl ⟨by unfold enters; rw [hf]; simp only [hn, hb]; rfl, call_sound (lv := lv) hmix hf hc (hbo ▸ hfit) (Nat.le_of_ble_eq_true ha) ?_⟩
  rw [← hbo, heq]
  exact h
/-- The ranges over functions in a body, one behind the other. -/
def rfs : Code → List (Array Tmp × Code × Code)
  | .rangeFunc _ ps a b => (ps, a, b) :: rfs b
  | .seq a b => rfs a ++ rfs b
  | .cond _ a b => rfs a ++ rfs b
  | .block _ c => rfs c
  | .loop c => rfs c
  | .scope c => rfs c
  | _ => []
def rfX (fn : Func) (k : Nat) : Array Tmp × Code × Code := ((rfs (bodyOf fn))[k]?).getD (#[], .skip, .skip)
def rfP (fn : Func) (k : Nat) : Array Tmp := (rfX fn k).1
def rfA (fn : Func) (k : Nat) : Code := (rfX fn k).2.1
def rfB (fn : Func) (k : Nat) : Code := (rfX fn k).2.2
end Go.Dn
