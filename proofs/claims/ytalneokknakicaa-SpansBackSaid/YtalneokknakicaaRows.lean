/-
  No cell of these rows narrows 'for every input' (looked for: loops, veiled, ifaces, maps, wideKeys, modest, calm, conditions, laid).
  DERIVED. THE GIVEN ROWS OF THIS SEAT. 4 by the template 'for every input the law returns true; each argument reads behind the call as it read before'; 0 by the template 'total and deterministic' (their statements: YtalneokknakicaaTotals.lean).
  GIVEN WITH THE SEED: the statements are not yours to turn. If you find one false, say at which input.
  Laid BY PROGRAM, IN A SANDBOX (cutbox-rows.mjs): the forced cells as the released guide's own fill.sh prints them over the translation 8adf64428bec1da3… (all of the seat's roots in one cut). By AI agents, Wed Nov 11 2026. No macro, syntax, notation, axiom, sorry.
-/
import Derived.Test.YtalneokknakicaaChecked
import GoSem.Claim
import GoSem.ClaimJoined
import GoSem.ClaimMapViews
import Derived.JoinedTies
import Derived.KernelRfl
namespace Go.Proofs.Ytalneokknakicaa
/- THE CELL 'sum', in the pinned program and in every row, IS THE sha256 OF THE DUMP (.gsa) THAT YtalneokknakicaaProg.lean LOADS. Nothing in Lean hashes anything: it is a label: what it is worth is what the hold of that sum in a sandbox is worth. -/
noncomputable def Try.pinned : Pinned := { name := "ytalneokknakicaa", sum := "8adf64428bec1da3e0563695cd5462713ffa7f66b6b759ddcce34c5d9804cfd9", checked := Try.checked }
namespace Rows
def none {H : Type} : Left H := { results := [], args := [] }

/-- 'collimatorlaw08.SpansNumbers': WHATEVER THE INPUT: true; the input reads as it did. -/
def spansNumbersSpec : ChangeSpec := { name := "spansNumbers", fn := fun _ => fun
  | [d] => { results := [.lit (.bool true)], args := [d] }
  | _ => none }
def spansNumbersRow : OpenClaim := { program := "ytalneokknakicaa", sum := "8adf64428bec1da3e0563695cd5462713ffa7f66b6b759ddcce34c5d9804cfd9", func := "collimator/collimatorlaw08.SpansNumbers", spec := "spansNumbers", apart := false }
def SpansNumbersSaid : Prop := spansNumbersRow.holds Try.pinned (OpenSpec.ofChange spansNumbersSpec)

/-- ITS FALSE NEIGHBOUR: 'it returns false'. Refute it at one input. -/
def spansNumbersWrong : ChangeSpec := { name := "spansNumbers", fn := fun _ => fun
  | [d] => { results := [.lit (.bool false)], args := [d] }
  | _ => none }
def SpansNumbersWrongFalsely : Prop := spansNumbersRow.holds Try.pinned (OpenSpec.ofChange spansNumbersWrong)

/-- 'collimatorlaw08.SpansSymbols': WHATEVER THE INPUT: true; the input reads as it did. -/
def spansSymbolsSpec : ChangeSpec := { name := "spansSymbols", fn := fun _ => fun
  | [d] => { results := [.lit (.bool true)], args := [d] }
  | _ => none }
def spansSymbolsRow : OpenClaim := { program := "ytalneokknakicaa", sum := "8adf64428bec1da3e0563695cd5462713ffa7f66b6b759ddcce34c5d9804cfd9", func := "collimator/collimatorlaw08.SpansSymbols", spec := "spansSymbols", apart := false }
def SpansSymbolsSaid : Prop := spansSymbolsRow.holds Try.pinned (OpenSpec.ofChange spansSymbolsSpec)

/-- ITS FALSE NEIGHBOUR: 'it returns false'. Refute it at one input. -/
def spansSymbolsWrong : ChangeSpec := { name := "spansSymbols", fn := fun _ => fun
  | [d] => { results := [.lit (.bool false)], args := [d] }
  | _ => none }
def SpansSymbolsWrongFalsely : Prop := spansSymbolsRow.holds Try.pinned (OpenSpec.ofChange spansSymbolsWrong)

/-- 'collimatorlaw08.SpansBack': WHATEVER THE INPUT: true; the input reads as it did. -/
def spansBackSpec : ChangeSpec := { name := "spansBack", fn := fun _ => fun
  | [d] => { results := [.lit (.bool true)], args := [d] }
  | _ => none }
def spansBackRow : OpenClaim := { program := "ytalneokknakicaa", sum := "8adf64428bec1da3e0563695cd5462713ffa7f66b6b759ddcce34c5d9804cfd9", func := "collimator/collimatorlaw08.SpansBack", spec := "spansBack", apart := false }
def SpansBackSaid : Prop := spansBackRow.holds Try.pinned (OpenSpec.ofChange spansBackSpec)

/-- ITS FALSE NEIGHBOUR: 'it returns false'. Refute it at one input. -/
def spansBackWrong : ChangeSpec := { name := "spansBack", fn := fun _ => fun
  | [d] => { results := [.lit (.bool false)], args := [d] }
  | _ => none }
def SpansBackWrongFalsely : Prop := spansBackRow.holds Try.pinned (OpenSpec.ofChange spansBackWrong)

/-- 'collimatorlaw08.SpansOne': WHATEVER THE INPUT: true; the input reads as it did. -/
def spansOneSpec : ChangeSpec := { name := "spansOne", fn := fun _ => fun
  | [d1, d2] => { results := [.lit (.bool true)], args := [d1, d2] }
  | _ => none }
def spansOneRow : OpenClaim := { program := "ytalneokknakicaa", sum := "8adf64428bec1da3e0563695cd5462713ffa7f66b6b759ddcce34c5d9804cfd9", func := "collimator/collimatorlaw08.SpansOne", spec := "spansOne", apart := false }
def SpansOneSaid : Prop := spansOneRow.holds Try.pinned (OpenSpec.ofChange spansOneSpec)

/-- ITS FALSE NEIGHBOUR: 'it returns false'. Refute it at one input. -/
def spansOneWrong : ChangeSpec := { name := "spansOne", fn := fun _ => fun
  | [d1, d2] => { results := [.lit (.bool false)], args := [d1, d2] }
  | _ => none }
def SpansOneWrongFalsely : Prop := spansOneRow.holds Try.pinned (OpenSpec.ofChange spansOneWrong)

/- THE SECOND FORM. 'bulk': how many values and letters a reading holds, each counted each time it is reached (what is shared counts as often as it is met; a slice's spare places count too). A statement '..UptoSaid' is the law's where the arguments, and the package variables that the reading takes, are together of bulk at most 1048576: NARROWER than '..Said'. Prove '..Said' where nothing that the law and all that it calls make is longer than what came in: it says more and counts as full. Else prove '..UptoSaid'. A law counts once. -/
mutual
def uptoBulk {H : Type} : DataW H → Nat
  | .lit (.string bytes) => bytes.length + 1
  | .lit _ => 1
  | .nil => 1
  | .ptr d => uptoBulk d + 1
  | .slice elems spare => uptoBulkAll elems + uptoBulkAll spare + 1
  | .agg parts => uptoBulkAll parts + 1
  | .iface _ d => uptoBulk d + 1
  | .map entries => uptoBulkEntries entries + 1
  | .held _ => 1
def uptoBulkAll {H : Type} : List (DataW H) → Nat
  | [] => 0
  | d :: r => uptoBulk d + uptoBulkAll r
def uptoBulkEntries {H : Type} : List (Lit × DataW H) → Nat
  | [] => 0
  | x :: r => uptoBulkEntry x + uptoBulkEntries r
def uptoBulkEntry {H : Type} : Lit × DataW H → Nat
  | (.string bytes, d) => bytes.length + uptoBulk d + 1
  | (_, d) => uptoBulk d + 1
 end
def uptoSmall : (H : Type) → List (DataW H) → Bool := fun _ ds => decide (uptoBulkAll ds ≤ 1048576)
def OpenSpec.upto (s : _root_.Go.ChangeSpec) : _root_.Go.OpenSpec := { _root_.Go.OpenSpec.ofChange s with cond := some uptoSmall }

/-- 'collimatorlaw08.SpansNumbers', WHERE WHAT IT READS IS OF BULK AT MOST 1048576: true; the input reads as it did. -/
def spansNumbersUptoRow : OpenClaim := { program := "ytalneokknakicaa", sum := "8adf64428bec1da3e0563695cd5462713ffa7f66b6b759ddcce34c5d9804cfd9", func := "collimator/collimatorlaw08.SpansNumbers", spec := "spansNumbers", apart := false, narrowed := true }
def SpansNumbersUptoSaid : Prop := spansNumbersUptoRow.holds Try.pinned (OpenSpec.upto spansNumbersSpec)

/-- 'collimatorlaw08.SpansSymbols', WHERE WHAT IT READS IS OF BULK AT MOST 1048576: true; the input reads as it did. -/
def spansSymbolsUptoRow : OpenClaim := { program := "ytalneokknakicaa", sum := "8adf64428bec1da3e0563695cd5462713ffa7f66b6b759ddcce34c5d9804cfd9", func := "collimator/collimatorlaw08.SpansSymbols", spec := "spansSymbols", apart := false, narrowed := true }
def SpansSymbolsUptoSaid : Prop := spansSymbolsUptoRow.holds Try.pinned (OpenSpec.upto spansSymbolsSpec)

/-- 'collimatorlaw08.SpansBack', WHERE WHAT IT READS IS OF BULK AT MOST 1048576: true; the input reads as it did. -/
def spansBackUptoRow : OpenClaim := { program := "ytalneokknakicaa", sum := "8adf64428bec1da3e0563695cd5462713ffa7f66b6b759ddcce34c5d9804cfd9", func := "collimator/collimatorlaw08.SpansBack", spec := "spansBack", apart := false, narrowed := true }
def SpansBackUptoSaid : Prop := spansBackUptoRow.holds Try.pinned (OpenSpec.upto spansBackSpec)

/-- 'collimatorlaw08.SpansOne', WHERE WHAT IT READS IS OF BULK AT MOST 1048576: true; the input reads as it did. -/
def spansOneUptoRow : OpenClaim := { program := "ytalneokknakicaa", sum := "8adf64428bec1da3e0563695cd5462713ffa7f66b6b759ddcce34c5d9804cfd9", func := "collimator/collimatorlaw08.SpansOne", spec := "spansOne", apart := false, narrowed := true }
def SpansOneUptoSaid : Prop := spansOneUptoRow.holds Try.pinned (OpenSpec.upto spansOneSpec)

end Rows
end Go.Proofs.Ytalneokknakicaa
