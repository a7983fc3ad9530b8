/-
  Own framework, part O: loops; rearranging; growing a slice.
  Conditions: none; general over any program.
-/
import Derived.Test.YtipjamgjgijeeaaDnN
set_option linter.unusedSectionVars false
set_option synthInstance.maxSize 10000
set_option synthInstance.maxHeartbeats 400000
set_option maxHeartbeats 2000000
namespace Go.Dn
set_option linter.unusedSimpArgs false
set_option linter.unusedVariables false
variable {P : Program} [sd : Side]
/-- 'L' holds all of 'M'. -/
class Inc (L M : List HProp) : Prop where
  out : ∀ h, sats L h → sats M h
instance (priority := high) Inc.refl {L : List HProp} : Inc L L := ⟨fun _ h => h⟩
instance Inc.nil {L : List HProp} : Inc L [] := ⟨fun _ _ => trivial⟩
instance (priority := low) Inc.cons {A : HProp} {L L1 M : List HProp} [tk : TakeF A L L1] [ic : Inc L1 M] : Inc L (A :: M) := ⟨fun h hs => sats_tail ic.out (tk.out h hs)⟩
instance (priority := low) Inc.drop {A : HProp} {L M : List HProp} [ic : Inc L M] : Inc (A :: L) M := ⟨fun h hs => ic.out h (sats_drop hs)⟩
theorem inc {L M : List HProp} {φ : W} [ic : Inc L M] (h : Ent M φ) : Ent L φ := ent_pre ic.out h

theorem ent_loop {γ : Type} {n : Nat} {B : (List Value → W) → List Value → Env → W} {s0 : List Value} {L : List HProp} (vals : γ → List Value) (Lg : γ → List HProp) (pure : γ → Prop) (μ : γ → Nat) (g0 : γ)
    (h0 : s0 = vals g0) (hp : pure g0) (hL : Inc L (Lg g0))
    (round : ∀ g, pure g → ∀ (K : List Value → W) (j : Env), (∀ g', pure g' → μ g' < μ g → Ent (Lg g') (K (vals g'))) → Ent (Lg g) (B K (vals g) j)) : Ent L (loopL n B s0) := by
  intro w hw
  let I : List Value → W := fun s w => ∃ g, s = vals g ∧ pure g ∧ Sat (Lg g) w
  let M : List Value → World → Nat → Prop := fun s w k => ∃ g, s = vals g ∧ pure g ∧ Sat (Lg g) w ∧ μ g = k
  have least : ∀ s w, I s w → ∃ k, M s w k ∧ ∀ k', M s w k' → k ≤ k' := by
    intro s w ⟨g, h1, h2, h3⟩
    have key : ∀ k, M s w k → ∃ k, M s w k ∧ ∀ k', M s w k' → k ≤ k' := by
      intro k
      induction k using Nat.strongRecOn with
      | _ k ih =>
        intro hk
        by_cases hx : ∃ k', k' < k ∧ M s w k'
        · obtain ⟨k', hlt, hm⟩ := hx
          exact ih k' hlt hm
        · exact ⟨k, hk, fun k' hk' => Nat.le_of_not_lt fun hlt => hx ⟨k', hlt, hk'⟩⟩
    exact key (μ g) ⟨g, h1, h2, h3, rfl⟩
  let m : List Value → World → Nat := fun s w => Classical.epsilon fun k => M s w k ∧ ∀ k', M s w k' → k ≤ k'
  have hm : ∀ s w, I s w → M s w (m s w) ∧ ∀ k', M s w k' → m s w ≤ k' := fun s w hI => Classical.epsilon_spec (least s w hI)
  refine ⟨I, m, ⟨g0, h0, hp, ⟨hL.out _ hw.1, hw.2⟩⟩, ?_⟩
  intro s j w' _ hI
  obtain ⟨⟨g, rfl, h2, h3, h4⟩, _⟩ := hm s w' hI
  refine round g h2 _ j (fun g' hp' hlt w'' hw'' => ?_) w' h3
  have hI' : I (vals g') w'' := ⟨g', rfl, hp', hw''⟩
  refine ⟨hI', ?_⟩
  have := (hm _ _ hI').2 (μ g') ⟨g', rfl, hp', hw'', rfl⟩
  omega
end Go.Dn
