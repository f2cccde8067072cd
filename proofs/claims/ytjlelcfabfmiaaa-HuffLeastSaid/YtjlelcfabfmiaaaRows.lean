/-
  No cell of these rows narrows 'for every input' (looked for: loops, veiled, ifaces, maps, wideKeys, modest, calm, conditions, laid).
  DERIVED. THE GIVEN ROWS OF THIS SEAT. 4 by the template 'for every input the law returns true; each argument reads behind the call as it read before'; 0 by the template 'total and deterministic' (their statements: YtjlelcfabfmiaaaTotals.lean).
  GIVEN WITH THE SEED: the statements are not yours to turn. If you find one false, say at which input.
  Laid BY PROGRAM, IN A SANDBOX (cutbox-rows.mjs): the forced cells as the released guide's own fill.sh prints them over the translation a2bdf181772c1482… (all of the seat's roots in one cut). By AI agents, Wed Nov 11 2026. No macro, syntax, notation, axiom, sorry.
-/
import Derived.Test.YtjlelcfabfmiaaaChecked
import GoSem.Claim
import GoSem.ClaimJoined
import GoSem.ClaimMapViews
import Derived.JoinedTies
import Derived.KernelRfl
namespace Go.Proofs.Ytjlelcfabfmiaaa
/- THE CELL 'sum', in the pinned program and in every row, IS THE sha256 OF THE DUMP (.gsa) THAT YtjlelcfabfmiaaaProg.lean LOADS. Nothing in Lean hashes anything: it is a label: what it is worth is what the hold of that sum in a sandbox is worth. -/
noncomputable def Try.pinned : Pinned := { name := "ytjlelcfabfmiaaa", sum := "a2bdf181772c1482b1b9f856a39728d4c3a08f0e7da87df257eb3ac1599eee47", checked := Try.checked }
namespace Rows
def none {H : Type} : Left H := { results := [], args := [] }

/-- 'collimatorlaw34.HuffLengths': WHATEVER THE INPUT: true; the input reads as it did. -/
def huffLengthsSpec : ChangeSpec := { name := "huffLengths", fn := fun _ => fun
  | [d1, d2] => { results := [.lit (.bool true)], args := [d1, d2] }
  | _ => none }
def huffLengthsRow : OpenClaim := { program := "ytjlelcfabfmiaaa", sum := "a2bdf181772c1482b1b9f856a39728d4c3a08f0e7da87df257eb3ac1599eee47", func := "collimator/collimatorlaw34.HuffLengths", spec := "huffLengths", unfollowed := true, recurses := true, apart := false }
def HuffLengthsSaid : Prop := huffLengthsRow.holds Try.pinned (OpenSpec.ofChange huffLengthsSpec)

/-- ITS FALSE NEIGHBOUR: 'it returns false'. Refute it at one input. -/
def huffLengthsWrong : ChangeSpec := { name := "huffLengths", fn := fun _ => fun
  | [d1, d2] => { results := [.lit (.bool false)], args := [d1, d2] }
  | _ => none }
def HuffLengthsWrongFalsely : Prop := huffLengthsRow.holds Try.pinned (OpenSpec.ofChange huffLengthsWrong)

/-- 'collimatorlaw34.HuffLeast': WHATEVER THE INPUT: true; the input reads as it did. -/
def huffLeastSpec : ChangeSpec := { name := "huffLeast", fn := fun _ => fun
  | [d1, d2] => { results := [.lit (.bool true)], args := [d1, d2] }
  | _ => none }
def huffLeastRow : OpenClaim := { program := "ytjlelcfabfmiaaa", sum := "a2bdf181772c1482b1b9f856a39728d4c3a08f0e7da87df257eb3ac1599eee47", func := "collimator/collimatorlaw34.HuffLeast", spec := "huffLeast", unfollowed := true, recurses := true, apart := false }
def HuffLeastSaid : Prop := huffLeastRow.holds Try.pinned (OpenSpec.ofChange huffLeastSpec)

/-- ITS FALSE NEIGHBOUR: 'it returns false'. Refute it at one input. -/
def huffLeastWrong : ChangeSpec := { name := "huffLeast", fn := fun _ => fun
  | [d1, d2] => { results := [.lit (.bool false)], args := [d1, d2] }
  | _ => none }
def HuffLeastWrongFalsely : Prop := huffLeastRow.holds Try.pinned (OpenSpec.ofChange huffLeastWrong)

/-- 'collimatorlaw34.HuffCosts': WHATEVER THE INPUT: true; the input reads as it did. -/
def huffCostsSpec : ChangeSpec := { name := "huffCosts", fn := fun _ => fun
  | [d1, d2] => { results := [.lit (.bool true)], args := [d1, d2] }
  | _ => none }
def huffCostsRow : OpenClaim := { program := "ytjlelcfabfmiaaa", sum := "a2bdf181772c1482b1b9f856a39728d4c3a08f0e7da87df257eb3ac1599eee47", func := "collimator/collimatorlaw34.HuffCosts", spec := "huffCosts", unfollowed := true, recurses := true, apart := false }
def HuffCostsSaid : Prop := huffCostsRow.holds Try.pinned (OpenSpec.ofChange huffCostsSpec)

/-- ITS FALSE NEIGHBOUR: 'it returns false'. Refute it at one input. -/
def huffCostsWrong : ChangeSpec := { name := "huffCosts", fn := fun _ => fun
  | [d1, d2] => { results := [.lit (.bool false)], args := [d1, d2] }
  | _ => none }
def HuffCostsWrongFalsely : Prop := huffCostsRow.holds Try.pinned (OpenSpec.ofChange huffCostsWrong)

/-- 'collimatorlaw34.HuffBeats': WHATEVER THE INPUT: true; the input reads as it did. -/
def huffBeatsSpec : ChangeSpec := { name := "huffBeats", fn := fun _ => fun
  | [d1, d2] => { results := [.lit (.bool true)], args := [d1, d2] }
  | _ => none }
def huffBeatsRow : OpenClaim := { program := "ytjlelcfabfmiaaa", sum := "a2bdf181772c1482b1b9f856a39728d4c3a08f0e7da87df257eb3ac1599eee47", func := "collimator/collimatorlaw34.HuffBeats", spec := "huffBeats", unfollowed := true, recurses := true, apart := false }
def HuffBeatsSaid : Prop := huffBeatsRow.holds Try.pinned (OpenSpec.ofChange huffBeatsSpec)

/-- ITS FALSE NEIGHBOUR: 'it returns false'. Refute it at one input. -/
def huffBeatsWrong : ChangeSpec := { name := "huffBeats", fn := fun _ => fun
  | [d1, d2] => { results := [.lit (.bool false)], args := [d1, d2] }
  | _ => none }
def HuffBeatsWrongFalsely : Prop := huffBeatsRow.holds Try.pinned (OpenSpec.ofChange huffBeatsWrong)

/- THE SECOND FORM. 'bulk': how many values and letters a reading holds, each counted each time it is reached (what is shared counts as often as it is met; a slice's spare places count too). A statement '..UptoSaid' is the law's where the arguments, and the package variables that the reading takes, are together of bulk at most 1048576: NARROWER than '..Said'. Prove '..Said' where nothing that the law and all that it calls make is longer than what came in: it says more and counts as full. Else prove '..UptoSaid'. A law counts once. -/
mutual
def uptoBulk {H : Type} : DataW H → Nat
  | .lit (.string bytes) => bytes.length + 1
  | .lit _ => 1
  | .nil => 1
  | .ptr d => uptoBulk d + 1
  | .slice elems spare => uptoBulkAll elems + uptoBulkAll spare + 1
  | .agg parts => uptoBulkAll parts + 1
  | .iface _ d => uptoBulk d + 1
  | .map entries => uptoBulkEntries entries + 1
  | .held _ => 1
def uptoBulkAll {H : Type} : List (DataW H) → Nat
  | [] => 0
  | d :: r => uptoBulk d + uptoBulkAll r
def uptoBulkEntries {H : Type} : List (Lit × DataW H) → Nat
  | [] => 0
  | x :: r => uptoBulkEntry x + uptoBulkEntries r
def uptoBulkEntry {H : Type} : Lit × DataW H → Nat
  | (.string bytes, d) => bytes.length + uptoBulk d + 1
  | (_, d) => uptoBulk d + 1
 end
def uptoSmall : (H : Type) → List (DataW H) → Bool := fun _ ds => decide (uptoBulkAll ds ≤ 1048576)
def OpenSpec.upto (s : _root_.Go.ChangeSpec) : _root_.Go.OpenSpec := { _root_.Go.OpenSpec.ofChange s with cond := some uptoSmall }

/-- 'collimatorlaw34.HuffLengths', WHERE WHAT IT READS IS OF BULK AT MOST 1048576: true; the input reads as it did. -/
def huffLengthsUptoRow : OpenClaim := { program := "ytjlelcfabfmiaaa", sum := "a2bdf181772c1482b1b9f856a39728d4c3a08f0e7da87df257eb3ac1599eee47", func := "collimator/collimatorlaw34.HuffLengths", spec := "huffLengths", unfollowed := true, recurses := true, apart := false, narrowed := true }
def HuffLengthsUptoSaid : Prop := huffLengthsUptoRow.holds Try.pinned (OpenSpec.upto huffLengthsSpec)

/-- 'collimatorlaw34.HuffLeast', WHERE WHAT IT READS IS OF BULK AT MOST 1048576: true; the input reads as it did. -/
def huffLeastUptoRow : OpenClaim := { program := "ytjlelcfabfmiaaa", sum := "a2bdf181772c1482b1b9f856a39728d4c3a08f0e7da87df257eb3ac1599eee47", func := "collimator/collimatorlaw34.HuffLeast", spec := "huffLeast", unfollowed := true, recurses := true, apart := false, narrowed := true }
def HuffLeastUptoSaid : Prop := huffLeastUptoRow.holds Try.pinned (OpenSpec.upto huffLeastSpec)

/-- 'collimatorlaw34.HuffCosts', WHERE WHAT IT READS IS OF BULK AT MOST 1048576: true; the input reads as it did. -/
def huffCostsUptoRow : OpenClaim := { program := "ytjlelcfabfmiaaa", sum := "a2bdf181772c1482b1b9f856a39728d4c3a08f0e7da87df257eb3ac1599eee47", func := "collimator/collimatorlaw34.HuffCosts", spec := "huffCosts", unfollowed := true, recurses := true, apart := false, narrowed := true }
def HuffCostsUptoSaid : Prop := huffCostsUptoRow.holds Try.pinned (OpenSpec.upto huffCostsSpec)

/-- 'collimatorlaw34.HuffBeats', WHERE WHAT IT READS IS OF BULK AT MOST 1048576: true; the input reads as it did. -/
def huffBeatsUptoRow : OpenClaim := { program := "ytjlelcfabfmiaaa", sum := "a2bdf181772c1482b1b9f856a39728d4c3a08f0e7da87df257eb3ac1599eee47", func := "collimator/collimatorlaw34.HuffBeats", spec := "huffBeats", unfollowed := true, recurses := true, apart := false, narrowed := true }
def HuffBeatsUptoSaid : Prop := huffBeatsUptoRow.holds Try.pinned (OpenSpec.upto huffBeatsSpec)

end Rows
end Go.Proofs.Ytjlelcfabfmiaaa
