/-
  No cell of these rows narrows 'for every input' (looked for: loops, veiled, ifaces, maps, wideKeys, modest, calm, conditions, laid).
  DERIVED. THE GIVEN ROWS OF THIS SEAT. 3 by the template 'for every input the law returns true; each argument reads behind the call as it read before'; 0 by the template 'total and deterministic' (their statements: YtipjamgjgijeeaaTotals.lean).
  GIVEN WITH THE SEED: the statements are not yours to turn. If you find one false, say at which input.
  Laid BY PROGRAM, IN A SANDBOX (cutbox-rows.mjs): the forced cells as the released guide's own fill.sh prints them over the translation 35792855f86c524b… (all of the seat's roots in one cut). By AI agents, Wed Nov 11 2026. No macro, syntax, notation, axiom, sorry.
-/
import Derived.Test.YtipjamgjgijeeaaChecked
import GoSem.Claim
import GoSem.ClaimJoined
import GoSem.ClaimMapViews
import Derived.JoinedTies
import Derived.KernelRfl
namespace Go.Proofs.Ytipjamgjgijeeaa
/- THE CELL 'sum', in the pinned program and in every row, IS THE sha256 OF THE DUMP (.gsa) THAT YtipjamgjgijeeaaProg.lean LOADS. Nothing in Lean hashes anything: it is a label: what it is worth is what the hold of that sum in a sandbox is worth. -/
noncomputable def Try.pinned : Pinned := { name := "ytipjamgjgijeeaa", sum := "35792855f86c524b6329098ce6ab43a6c55bf4291fe9c30c126f706ed2d0ece2", checked := Try.checked }
namespace Rows
def none {H : Type} : Left H := { results := [], args := [] }

/-- 'wicketlaw14.LockHands': WHATEVER THE INPUT: true; the input reads as it did. -/
def lockHandsSpec : ChangeSpec := { name := "lockHands", fn := fun _ => fun
  | [d1, d2] => { results := [.lit (.bool true)], args := [d1, d2] }
  | _ => none }
def lockHandsRow : OpenClaim := { program := "ytipjamgjgijeeaa", sum := "35792855f86c524b6329098ce6ab43a6c55bf4291fe9c30c126f706ed2d0ece2", func := "wicket/wicketlaw14.LockHands", spec := "lockHands", unfollowed := true, recurses := true, apart := false }
def LockHandsSaid : Prop := lockHandsRow.holds Try.pinned (OpenSpec.ofChange lockHandsSpec)

/-- ITS FALSE NEIGHBOUR: 'it returns false'. Refute it at one input. -/
def lockHandsWrong : ChangeSpec := { name := "lockHands", fn := fun _ => fun
  | [d1, d2] => { results := [.lit (.bool false)], args := [d1, d2] }
  | _ => none }
def LockHandsWrongFalsely : Prop := lockHandsRow.holds Try.pinned (OpenSpec.ofChange lockHandsWrong)

/-- 'wicketlaw14.LockAlone': WHATEVER THE INPUT: true; the input reads as it did. -/
def lockAloneSpec : ChangeSpec := { name := "lockAlone", fn := fun _ => fun
  | [d1, d2, d3] => { results := [.lit (.bool true)], args := [d1, d2, d3] }
  | _ => none }
def lockAloneRow : OpenClaim := { program := "ytipjamgjgijeeaa", sum := "35792855f86c524b6329098ce6ab43a6c55bf4291fe9c30c126f706ed2d0ece2", func := "wicket/wicketlaw14.LockAlone", spec := "lockAlone", unfollowed := true, recurses := true, apart := false }
def LockAloneSaid : Prop := lockAloneRow.holds Try.pinned (OpenSpec.ofChange lockAloneSpec)

/-- ITS FALSE NEIGHBOUR: 'it returns false'. Refute it at one input. -/
def lockAloneWrong : ChangeSpec := { name := "lockAlone", fn := fun _ => fun
  | [d1, d2, d3] => { results := [.lit (.bool false)], args := [d1, d2, d3] }
  | _ => none }
def LockAloneWrongFalsely : Prop := lockAloneRow.holds Try.pinned (OpenSpec.ofChange lockAloneWrong)

/-- 'wicketlaw14.LockRefused': WHATEVER THE INPUT: true; the input reads as it did. -/
def lockRefusedSpec : ChangeSpec := { name := "lockRefused", fn := fun _ => fun
  | [d1, d2, d3, d4] => { results := [.lit (.bool true)], args := [d1, d2, d3, d4] }
  | _ => none }
def lockRefusedRow : OpenClaim := { program := "ytipjamgjgijeeaa", sum := "35792855f86c524b6329098ce6ab43a6c55bf4291fe9c30c126f706ed2d0ece2", func := "wicket/wicketlaw14.LockRefused", spec := "lockRefused", unfollowed := true, recurses := true, apart := false }
def LockRefusedSaid : Prop := lockRefusedRow.holds Try.pinned (OpenSpec.ofChange lockRefusedSpec)

/-- ITS FALSE NEIGHBOUR: 'it returns false'. Refute it at one input. -/
def lockRefusedWrong : ChangeSpec := { name := "lockRefused", fn := fun _ => fun
  | [d1, d2, d3, d4] => { results := [.lit (.bool false)], args := [d1, d2, d3, d4] }
  | _ => none }
def LockRefusedWrongFalsely : Prop := lockRefusedRow.holds Try.pinned (OpenSpec.ofChange lockRefusedWrong)

/- THE SECOND FORM. 'bulk': how many values and letters a reading holds, each counted each time it is reached (what is shared counts as often as it is met; a slice's spare places count too). A statement '..UptoSaid' is the law's where the arguments, and the package variables that the reading takes, are together of bulk at most 1048576: NARROWER than '..Said'. Prove '..Said' where nothing that the law and all that it calls make is longer than what came in: it says more and counts as full. Else prove '..UptoSaid'. A law counts once. -/
mutual
def uptoBulk {H : Type} : DataW H → Nat
  | .lit (.string bytes) => bytes.length + 1
  | .lit _ => 1
  | .nil => 1
  | .ptr d => uptoBulk d + 1
  | .slice elems spare => uptoBulkAll elems + uptoBulkAll spare + 1
  | .agg parts => uptoBulkAll parts + 1
  | .iface _ d => uptoBulk d + 1
  | .map entries => uptoBulkEntries entries + 1
  | .held _ => 1
def uptoBulkAll {H : Type} : List (DataW H) → Nat
  | [] => 0
  | d :: r => uptoBulk d + uptoBulkAll r
def uptoBulkEntries {H : Type} : List (Lit × DataW H) → Nat
  | [] => 0
  | x :: r => uptoBulkEntry x + uptoBulkEntries r
def uptoBulkEntry {H : Type} : Lit × DataW H → Nat
  | (.string bytes, d) => bytes.length + uptoBulk d + 1
  | (_, d) => uptoBulk d + 1
 end
def uptoSmall : (H : Type) → List (DataW H) → Bool := fun _ ds => decide (uptoBulkAll ds ≤ 1048576)
def OpenSpec.upto (s : _root_.Go.ChangeSpec) : _root_.Go.OpenSpec := { _root_.Go.OpenSpec.ofChange s with cond := some uptoSmall }

/-- 'wicketlaw14.LockHands', WHERE WHAT IT READS IS OF BULK AT MOST 1048576: true; the input reads as it did. -/
def lockHandsUptoRow : OpenClaim := { program := "ytipjamgjgijeeaa", sum := "35792855f86c524b6329098ce6ab43a6c55bf4291fe9c30c126f706ed2d0ece2", func := "wicket/wicketlaw14.LockHands", spec := "lockHands", unfollowed := true, recurses := true, apart := false, narrowed := true }
def LockHandsUptoSaid : Prop := lockHandsUptoRow.holds Try.pinned (OpenSpec.upto lockHandsSpec)

/-- 'wicketlaw14.LockAlone', WHERE WHAT IT READS IS OF BULK AT MOST 1048576: true; the input reads as it did. -/
def lockAloneUptoRow : OpenClaim := { program := "ytipjamgjgijeeaa", sum := "35792855f86c524b6329098ce6ab43a6c55bf4291fe9c30c126f706ed2d0ece2", func := "wicket/wicketlaw14.LockAlone", spec := "lockAlone", unfollowed := true, recurses := true, apart := false, narrowed := true }
def LockAloneUptoSaid : Prop := lockAloneUptoRow.holds Try.pinned (OpenSpec.upto lockAloneSpec)

/-- 'wicketlaw14.LockRefused', WHERE WHAT IT READS IS OF BULK AT MOST 1048576: true; the input reads as it did. -/
def lockRefusedUptoRow : OpenClaim := { program := "ytipjamgjgijeeaa", sum := "35792855f86c524b6329098ce6ab43a6c55bf4291fe9c30c126f706ed2d0ece2", func := "wicket/wicketlaw14.LockRefused", spec := "lockRefused", unfollowed := true, recurses := true, apart := false, narrowed := true }
def LockRefusedUptoSaid : Prop := lockRefusedUptoRow.holds Try.pinned (OpenSpec.upto lockRefusedSpec)

end Rows
end Go.Proofs.Ytipjamgjgijeeaa
