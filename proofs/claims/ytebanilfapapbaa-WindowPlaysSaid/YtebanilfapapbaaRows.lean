/-
  No cell of these rows narrows 'for every input' (looked for: loops, veiled, ifaces, maps, wideKeys, modest, calm, conditions, laid).
  DERIVED. THE GIVEN ROWS OF THIS SEAT. 4 by the template 'for every input the law returns true; each argument reads behind the call as it read before'; 0 by the template 'total and deterministic' (their statements: YtebanilfapapbaaTotals.lean).
  GIVEN WITH THE SEED: the statements are not yours to turn. If you find one false, say at which input.
  Laid BY PROGRAM, IN A SANDBOX (cutbox-rows.mjs): the forced cells as the released guide's own fill.sh prints them over the translation fb98f0686dfbcd8d… (all of the seat's roots in one cut). By AI agents, Wed Nov 11 2026. No macro, syntax, notation, axiom, sorry.
-/
import Derived.Test.YtebanilfapapbaaChecked
import GoSem.Claim
import GoSem.ClaimJoined
import GoSem.ClaimMapViews
import Derived.JoinedTies
import Derived.KernelRfl
namespace Go.Proofs.Ytebanilfapapbaa
/- THE CELL 'sum', in the pinned program and in every row, IS THE sha256 OF THE DUMP (.gsa) THAT YtebanilfapapbaaProg.lean LOADS. Nothing in Lean hashes anything: it is a label: what it is worth is what the hold of that sum in a sandbox is worth. -/
noncomputable def Try.pinned : Pinned := { name := "ytebanilfapapbaa", sum := "fb98f0686dfbcd8d2a515a0dadddcc1c8d3f1180b70f257b3379e333a0519b1c", checked := Try.checked }
namespace Rows
def none {H : Type} : Left H := { results := [], args := [] }

/-- 'collimatorlaw07.WindowAhead': WHATEVER THE INPUT: true; the input reads as it did. -/
def windowAheadSpec : ChangeSpec := { name := "windowAhead", fn := fun _ => fun
  | [d1, d2, d3] => { results := [.lit (.bool true)], args := [d1, d2, d3] }
  | _ => none }
def windowAheadRow : OpenClaim := { program := "ytebanilfapapbaa", sum := "fb98f0686dfbcd8d2a515a0dadddcc1c8d3f1180b70f257b3379e333a0519b1c", func := "collimator/collimatorlaw07.WindowAhead", spec := "windowAhead", apart := false }
def WindowAheadSaid : Prop := windowAheadRow.holds Try.pinned (OpenSpec.ofChange windowAheadSpec)

/-- ITS FALSE NEIGHBOUR: 'it returns false'. Refute it at one input. -/
def windowAheadWrong : ChangeSpec := { name := "windowAhead", fn := fun _ => fun
  | [d1, d2, d3] => { results := [.lit (.bool false)], args := [d1, d2, d3] }
  | _ => none }
def WindowAheadWrongFalsely : Prop := windowAheadRow.holds Try.pinned (OpenSpec.ofChange windowAheadWrong)

/-- 'collimatorlaw07.WindowHolds': WHATEVER THE INPUT: true; the input reads as it did. -/
def windowHoldsSpec : ChangeSpec := { name := "windowHolds", fn := fun _ => fun
  | [d1, d2] => { results := [.lit (.bool true)], args := [d1, d2] }
  | _ => none }
def windowHoldsRow : OpenClaim := { program := "ytebanilfapapbaa", sum := "fb98f0686dfbcd8d2a515a0dadddcc1c8d3f1180b70f257b3379e333a0519b1c", func := "collimator/collimatorlaw07.WindowHolds", spec := "windowHolds", apart := false }
def WindowHoldsSaid : Prop := windowHoldsRow.holds Try.pinned (OpenSpec.ofChange windowHoldsSpec)

/-- ITS FALSE NEIGHBOUR: 'it returns false'. Refute it at one input. -/
def windowHoldsWrong : ChangeSpec := { name := "windowHolds", fn := fun _ => fun
  | [d1, d2] => { results := [.lit (.bool false)], args := [d1, d2] }
  | _ => none }
def WindowHoldsWrongFalsely : Prop := windowHoldsRow.holds Try.pinned (OpenSpec.ofChange windowHoldsWrong)

/-- 'collimatorlaw07.WindowPlays': WHATEVER THE INPUT: true; the input reads as it did. -/
def windowPlaysSpec : ChangeSpec := { name := "windowPlays", fn := fun _ => fun
  | [d1, d2] => { results := [.lit (.bool true)], args := [d1, d2] }
  | _ => none }
def windowPlaysRow : OpenClaim := { program := "ytebanilfapapbaa", sum := "fb98f0686dfbcd8d2a515a0dadddcc1c8d3f1180b70f257b3379e333a0519b1c", func := "collimator/collimatorlaw07.WindowPlays", spec := "windowPlays", apart := false }
def WindowPlaysSaid : Prop := windowPlaysRow.holds Try.pinned (OpenSpec.ofChange windowPlaysSpec)

/-- ITS FALSE NEIGHBOUR: 'it returns false'. Refute it at one input. -/
def windowPlaysWrong : ChangeSpec := { name := "windowPlays", fn := fun _ => fun
  | [d1, d2] => { results := [.lit (.bool false)], args := [d1, d2] }
  | _ => none }
def WindowPlaysWrongFalsely : Prop := windowPlaysRow.holds Try.pinned (OpenSpec.ofChange windowPlaysWrong)

/-- 'collimatorlaw07.WindowNil': WHATEVER THE INPUT: true; the input reads as it did. -/
def windowNilSpec : ChangeSpec := { name := "windowNil", fn := fun _ => fun
  | [d1, d2] => { results := [.lit (.bool true)], args := [d1, d2] }
  | _ => none }
def windowNilRow : OpenClaim := { program := "ytebanilfapapbaa", sum := "fb98f0686dfbcd8d2a515a0dadddcc1c8d3f1180b70f257b3379e333a0519b1c", func := "collimator/collimatorlaw07.WindowNil", spec := "windowNil", apart := false }
def WindowNilSaid : Prop := windowNilRow.holds Try.pinned (OpenSpec.ofChange windowNilSpec)

/-- ITS FALSE NEIGHBOUR: 'it returns false'. Refute it at one input. -/
def windowNilWrong : ChangeSpec := { name := "windowNil", fn := fun _ => fun
  | [d1, d2] => { results := [.lit (.bool false)], args := [d1, d2] }
  | _ => none }
def WindowNilWrongFalsely : Prop := windowNilRow.holds Try.pinned (OpenSpec.ofChange windowNilWrong)

/- THE SECOND FORM. 'bulk': how many values and letters a reading holds, each counted each time it is reached (what is shared counts as often as it is met; a slice's spare places count too). A statement '..UptoSaid' is the law's where the arguments, and the package variables that the reading takes, are together of bulk at most 1048576: NARROWER than '..Said'. Prove '..Said' where nothing that the law and all that it calls make is longer than what came in: it says more and counts as full. Else prove '..UptoSaid'. A law counts once. -/
mutual
def uptoBulk {H : Type} : DataW H → Nat
  | .lit (.string bytes) => bytes.length + 1
  | .lit _ => 1
  | .nil => 1
  | .ptr d => uptoBulk d + 1
  | .slice elems spare => uptoBulkAll elems + uptoBulkAll spare + 1
  | .agg parts => uptoBulkAll parts + 1
  | .iface _ d => uptoBulk d + 1
  | .map entries => uptoBulkEntries entries + 1
  | .held _ => 1
def uptoBulkAll {H : Type} : List (DataW H) → Nat
  | [] => 0
  | d :: r => uptoBulk d + uptoBulkAll r
def uptoBulkEntries {H : Type} : List (Lit × DataW H) → Nat
  | [] => 0
  | x :: r => uptoBulkEntry x + uptoBulkEntries r
def uptoBulkEntry {H : Type} : Lit × DataW H → Nat
  | (.string bytes, d) => bytes.length + uptoBulk d + 1
  | (_, d) => uptoBulk d + 1
 end
def uptoSmall : (H : Type) → List (DataW H) → Bool := fun _ ds => decide (uptoBulkAll ds ≤ 1048576)
def OpenSpec.upto (s : _root_.Go.ChangeSpec) : _root_.Go.OpenSpec := { _root_.Go.OpenSpec.ofChange s with cond := some uptoSmall }

/-- 'collimatorlaw07.WindowAhead', WHERE WHAT IT READS IS OF BULK AT MOST 1048576: true; the input reads as it did. -/
def windowAheadUptoRow : OpenClaim := { program := "ytebanilfapapbaa", sum := "fb98f0686dfbcd8d2a515a0dadddcc1c8d3f1180b70f257b3379e333a0519b1c", func := "collimator/collimatorlaw07.WindowAhead", spec := "windowAhead", apart := false, narrowed := true }
def WindowAheadUptoSaid : Prop := windowAheadUptoRow.holds Try.pinned (OpenSpec.upto windowAheadSpec)

/-- 'collimatorlaw07.WindowHolds', WHERE WHAT IT READS IS OF BULK AT MOST 1048576: true; the input reads as it did. -/
def windowHoldsUptoRow : OpenClaim := { program := "ytebanilfapapbaa", sum := "fb98f0686dfbcd8d2a515a0dadddcc1c8d3f1180b70f257b3379e333a0519b1c", func := "collimator/collimatorlaw07.WindowHolds", spec := "windowHolds", apart := false, narrowed := true }
def WindowHoldsUptoSaid : Prop := windowHoldsUptoRow.holds Try.pinned (OpenSpec.upto windowHoldsSpec)

/-- 'collimatorlaw07.WindowPlays', WHERE WHAT IT READS IS OF BULK AT MOST 1048576: true; the input reads as it did. -/
def windowPlaysUptoRow : OpenClaim := { program := "ytebanilfapapbaa", sum := "fb98f0686dfbcd8d2a515a0dadddcc1c8d3f1180b70f257b3379e333a0519b1c", func := "collimator/collimatorlaw07.WindowPlays", spec := "windowPlays", apart := false, narrowed := true }
def WindowPlaysUptoSaid : Prop := windowPlaysUptoRow.holds Try.pinned (OpenSpec.upto windowPlaysSpec)

/-- 'collimatorlaw07.WindowNil', WHERE WHAT IT READS IS OF BULK AT MOST 1048576: true; the input reads as it did. -/
def windowNilUptoRow : OpenClaim := { program := "ytebanilfapapbaa", sum := "fb98f0686dfbcd8d2a515a0dadddcc1c8d3f1180b70f257b3379e333a0519b1c", func := "collimator/collimatorlaw07.WindowNil", spec := "windowNil", apart := false, narrowed := true }
def WindowNilUptoSaid : Prop := windowNilUptoRow.holds Try.pinned (OpenSpec.upto windowNilSpec)

end Rows
end Go.Proofs.Ytebanilfapapbaa
