/-
  No cell of these rows narrows 'for every input' (looked for: loops, veiled, ifaces, maps, wideKeys, modest, calm, conditions, laid).
  DERIVED. THE GIVEN ROWS OF THIS SEAT. 6 by the template 'for every input the law returns true; each argument reads behind the call as it read before'; 0 by the template 'total and deterministic' (their statements: YtpengkmmgpoofaaTotals.lean).
  GIVEN WITH THE SEED: the statements are not yours to turn. If you find one false, say at which input.
  Laid BY PROGRAM, IN A SANDBOX (cutbox-rows.mjs): the forced cells as the released guide's own fill.sh prints them over the translation 31eb18f14dd360d8… (all of the seat's roots in one cut). By AI agents, Wed Nov 11 2026. No macro, syntax, notation, axiom, sorry.
-/
import Derived.Test.YtpengkmmgpoofaaChecked
import GoSem.Claim
import GoSem.ClaimJoined
import GoSem.ClaimMapViews
import Derived.JoinedTies
import Derived.KernelRfl
namespace Go.Proofs.Ytpengkmmgpoofaa
/- THE CELL 'sum', in the pinned program and in every row, IS THE sha256 OF THE DUMP (.gsa) THAT YtpengkmmgpoofaaProg.lean LOADS. Nothing in Lean hashes anything: it is a label: what it is worth is what the hold of that sum in a sandbox is worth. -/
noncomputable def Try.pinned : Pinned := { name := "ytpengkmmgpoofaa", sum := "31eb18f14dd360d8773bb009ca0eff4c79b576052d9d6a064e4c006fa6b40e75", checked := Try.checked }
namespace Rows
def none {H : Type} : Left H := { results := [], args := [] }

/-- 'collimatorlaw04.BitrowTurns': WHATEVER THE INPUT: true; the input reads as it did. -/
def bitrowTurnsSpec : ChangeSpec := { name := "bitrowTurns", fn := fun _ => fun
  | [d1, d2] => { results := [.lit (.bool true)], args := [d1, d2] }
  | _ => none }
def bitrowTurnsRow : OpenClaim := { program := "ytpengkmmgpoofaa", sum := "31eb18f14dd360d8773bb009ca0eff4c79b576052d9d6a064e4c006fa6b40e75", func := "collimator/collimatorlaw04.BitrowTurns", spec := "bitrowTurns", unfollowed := true, recurses := true, apart := false }
def BitrowTurnsSaid : Prop := bitrowTurnsRow.holds Try.pinned (OpenSpec.ofChange bitrowTurnsSpec)

/-- ITS FALSE NEIGHBOUR: 'it returns false'. Refute it at one input. -/
def bitrowTurnsWrong : ChangeSpec := { name := "bitrowTurns", fn := fun _ => fun
  | [d1, d2] => { results := [.lit (.bool false)], args := [d1, d2] }
  | _ => none }
def BitrowTurnsWrongFalsely : Prop := bitrowTurnsRow.holds Try.pinned (OpenSpec.ofChange bitrowTurnsWrong)

/-- 'collimatorlaw04.BitrowBack': WHATEVER THE INPUT: true; the input reads as it did. -/
def bitrowBackSpec : ChangeSpec := { name := "bitrowBack", fn := fun _ => fun
  | [d] => { results := [.lit (.bool true)], args := [d] }
  | _ => none }
def bitrowBackRow : OpenClaim := { program := "ytpengkmmgpoofaa", sum := "31eb18f14dd360d8773bb009ca0eff4c79b576052d9d6a064e4c006fa6b40e75", func := "collimator/collimatorlaw04.BitrowBack", spec := "bitrowBack", unfollowed := true, recurses := true, apart := false }
def BitrowBackSaid : Prop := bitrowBackRow.holds Try.pinned (OpenSpec.ofChange bitrowBackSpec)

/-- ITS FALSE NEIGHBOUR: 'it returns false'. Refute it at one input. -/
def bitrowBackWrong : ChangeSpec := { name := "bitrowBack", fn := fun _ => fun
  | [d] => { results := [.lit (.bool false)], args := [d] }
  | _ => none }
def BitrowBackWrongFalsely : Prop := bitrowBackRow.holds Try.pinned (OpenSpec.ofChange bitrowBackWrong)

/-- 'collimatorlaw04.BitrowParts': WHATEVER THE INPUT: true; the input reads as it did. -/
def bitrowPartsSpec : ChangeSpec := { name := "bitrowParts", fn := fun _ => fun
  | [d1, d2, d3] => { results := [.lit (.bool true)], args := [d1, d2, d3] }
  | _ => none }
def bitrowPartsRow : OpenClaim := { program := "ytpengkmmgpoofaa", sum := "31eb18f14dd360d8773bb009ca0eff4c79b576052d9d6a064e4c006fa6b40e75", func := "collimator/collimatorlaw04.BitrowParts", spec := "bitrowParts", unfollowed := true, recurses := true, apart := false }
def BitrowPartsSaid : Prop := bitrowPartsRow.holds Try.pinned (OpenSpec.ofChange bitrowPartsSpec)

/-- ITS FALSE NEIGHBOUR: 'it returns false'. Refute it at one input. -/
def bitrowPartsWrong : ChangeSpec := { name := "bitrowParts", fn := fun _ => fun
  | [d1, d2, d3] => { results := [.lit (.bool false)], args := [d1, d2, d3] }
  | _ => none }
def BitrowPartsWrongFalsely : Prop := bitrowPartsRow.holds Try.pinned (OpenSpec.ofChange bitrowPartsWrong)

/-- 'collimatorlaw04.BitrowWrites': WHATEVER THE INPUT: true; the input reads as it did. -/
def bitrowWritesSpec : ChangeSpec := { name := "bitrowWrites", fn := fun _ => fun
  | [d] => { results := [.lit (.bool true)], args := [d] }
  | _ => none }
def bitrowWritesRow : OpenClaim := { program := "ytpengkmmgpoofaa", sum := "31eb18f14dd360d8773bb009ca0eff4c79b576052d9d6a064e4c006fa6b40e75", func := "collimator/collimatorlaw04.BitrowWrites", spec := "bitrowWrites", unfollowed := true, recurses := true, apart := false }
def BitrowWritesSaid : Prop := bitrowWritesRow.holds Try.pinned (OpenSpec.ofChange bitrowWritesSpec)

/-- ITS FALSE NEIGHBOUR: 'it returns false'. Refute it at one input. -/
def bitrowWritesWrong : ChangeSpec := { name := "bitrowWrites", fn := fun _ => fun
  | [d] => { results := [.lit (.bool false)], args := [d] }
  | _ => none }
def BitrowWritesWrongFalsely : Prop := bitrowWritesRow.holds Try.pinned (OpenSpec.ofChange bitrowWritesWrong)

/-- 'collimatorlaw04.BitrowReads': WHATEVER THE INPUT: true; the input reads as it did. -/
def bitrowReadsSpec : ChangeSpec := { name := "bitrowReads", fn := fun _ => fun
  | [d1, d2, d3] => { results := [.lit (.bool true)], args := [d1, d2, d3] }
  | _ => none }
def bitrowReadsRow : OpenClaim := { program := "ytpengkmmgpoofaa", sum := "31eb18f14dd360d8773bb009ca0eff4c79b576052d9d6a064e4c006fa6b40e75", func := "collimator/collimatorlaw04.BitrowReads", spec := "bitrowReads", unfollowed := true, recurses := true, apart := false }
def BitrowReadsSaid : Prop := bitrowReadsRow.holds Try.pinned (OpenSpec.ofChange bitrowReadsSpec)

/-- ITS FALSE NEIGHBOUR: 'it returns false'. Refute it at one input. -/
def bitrowReadsWrong : ChangeSpec := { name := "bitrowReads", fn := fun _ => fun
  | [d1, d2, d3] => { results := [.lit (.bool false)], args := [d1, d2, d3] }
  | _ => none }
def BitrowReadsWrongFalsely : Prop := bitrowReadsRow.holds Try.pinned (OpenSpec.ofChange bitrowReadsWrong)

/-- 'collimatorlaw04.BitrowNil': WHATEVER THE INPUT: true; the input reads as it did. -/
def bitrowNilSpec : ChangeSpec := { name := "bitrowNil", fn := fun _ => fun
  | [d1, d2] => { results := [.lit (.bool true)], args := [d1, d2] }
  | _ => none }
def bitrowNilRow : OpenClaim := { program := "ytpengkmmgpoofaa", sum := "31eb18f14dd360d8773bb009ca0eff4c79b576052d9d6a064e4c006fa6b40e75", func := "collimator/collimatorlaw04.BitrowNil", spec := "bitrowNil", unfollowed := true, recurses := true, apart := false }
def BitrowNilSaid : Prop := bitrowNilRow.holds Try.pinned (OpenSpec.ofChange bitrowNilSpec)

/-- ITS FALSE NEIGHBOUR: 'it returns false'. Refute it at one input. -/
def bitrowNilWrong : ChangeSpec := { name := "bitrowNil", fn := fun _ => fun
  | [d1, d2] => { results := [.lit (.bool false)], args := [d1, d2] }
  | _ => none }
def BitrowNilWrongFalsely : Prop := bitrowNilRow.holds Try.pinned (OpenSpec.ofChange bitrowNilWrong)

/- THE SECOND FORM. 'bulk': how many values and letters a reading holds, each counted each time it is reached (what is shared counts as often as it is met; a slice's spare places count too). A statement '..UptoSaid' is the law's where the arguments, and the package variables that the reading takes, are together of bulk at most 1048576: NARROWER than '..Said'. Prove '..Said' where nothing that the law and all that it calls make is longer than what came in: it says more and counts as full. Else prove '..UptoSaid'. A law counts once. -/
mutual
def uptoBulk {H : Type} : DataW H → Nat
  | .lit (.string bytes) => bytes.length + 1
  | .lit _ => 1
  | .nil => 1
  | .ptr d => uptoBulk d + 1
  | .slice elems spare => uptoBulkAll elems + uptoBulkAll spare + 1
  | .agg parts => uptoBulkAll parts + 1
  | .iface _ d => uptoBulk d + 1
  | .map entries => uptoBulkEntries entries + 1
  | .held _ => 1
def uptoBulkAll {H : Type} : List (DataW H) → Nat
  | [] => 0
  | d :: r => uptoBulk d + uptoBulkAll r
def uptoBulkEntries {H : Type} : List (Lit × DataW H) → Nat
  | [] => 0
  | x :: r => uptoBulkEntry x + uptoBulkEntries r
def uptoBulkEntry {H : Type} : Lit × DataW H → Nat
  | (.string bytes, d) => bytes.length + uptoBulk d + 1
  | (_, d) => uptoBulk d + 1
 end
def uptoSmall : (H : Type) → List (DataW H) → Bool := fun _ ds => decide (uptoBulkAll ds ≤ 1048576)
def OpenSpec.upto (s : _root_.Go.ChangeSpec) : _root_.Go.OpenSpec := { _root_.Go.OpenSpec.ofChange s with cond := some uptoSmall }

/-- 'collimatorlaw04.BitrowTurns', WHERE WHAT IT READS IS OF BULK AT MOST 1048576: true; the input reads as it did. -/
def bitrowTurnsUptoRow : OpenClaim := { program := "ytpengkmmgpoofaa", sum := "31eb18f14dd360d8773bb009ca0eff4c79b576052d9d6a064e4c006fa6b40e75", func := "collimator/collimatorlaw04.BitrowTurns", spec := "bitrowTurns", unfollowed := true, recurses := true, apart := false, narrowed := true }
def BitrowTurnsUptoSaid : Prop := bitrowTurnsUptoRow.holds Try.pinned (OpenSpec.upto bitrowTurnsSpec)

/-- 'collimatorlaw04.BitrowBack', WHERE WHAT IT READS IS OF BULK AT MOST 1048576: true; the input reads as it did. -/
def bitrowBackUptoRow : OpenClaim := { program := "ytpengkmmgpoofaa", sum := "31eb18f14dd360d8773bb009ca0eff4c79b576052d9d6a064e4c006fa6b40e75", func := "collimator/collimatorlaw04.BitrowBack", spec := "bitrowBack", unfollowed := true, recurses := true, apart := false, narrowed := true }
def BitrowBackUptoSaid : Prop := bitrowBackUptoRow.holds Try.pinned (OpenSpec.upto bitrowBackSpec)

/-- 'collimatorlaw04.BitrowParts', WHERE WHAT IT READS IS OF BULK AT MOST 1048576: true; the input reads as it did. -/
def bitrowPartsUptoRow : OpenClaim := { program := "ytpengkmmgpoofaa", sum := "31eb18f14dd360d8773bb009ca0eff4c79b576052d9d6a064e4c006fa6b40e75", func := "collimator/collimatorlaw04.BitrowParts", spec := "bitrowParts", unfollowed := true, recurses := true, apart := false, narrowed := true }
def BitrowPartsUptoSaid : Prop := bitrowPartsUptoRow.holds Try.pinned (OpenSpec.upto bitrowPartsSpec)

/-- 'collimatorlaw04.BitrowWrites', WHERE WHAT IT READS IS OF BULK AT MOST 1048576: true; the input reads as it did. -/
def bitrowWritesUptoRow : OpenClaim := { program := "ytpengkmmgpoofaa", sum := "31eb18f14dd360d8773bb009ca0eff4c79b576052d9d6a064e4c006fa6b40e75", func := "collimator/collimatorlaw04.BitrowWrites", spec := "bitrowWrites", unfollowed := true, recurses := true, apart := false, narrowed := true }
def BitrowWritesUptoSaid : Prop := bitrowWritesUptoRow.holds Try.pinned (OpenSpec.upto bitrowWritesSpec)

/-- 'collimatorlaw04.BitrowReads', WHERE WHAT IT READS IS OF BULK AT MOST 1048576: true; the input reads as it did. -/
def bitrowReadsUptoRow : OpenClaim := { program := "ytpengkmmgpoofaa", sum := "31eb18f14dd360d8773bb009ca0eff4c79b576052d9d6a064e4c006fa6b40e75", func := "collimator/collimatorlaw04.BitrowReads", spec := "bitrowReads", unfollowed := true, recurses := true, apart := false, narrowed := true }
def BitrowReadsUptoSaid : Prop := bitrowReadsUptoRow.holds Try.pinned (OpenSpec.upto bitrowReadsSpec)

/-- 'collimatorlaw04.BitrowNil', WHERE WHAT IT READS IS OF BULK AT MOST 1048576: true; the input reads as it did. -/
def bitrowNilUptoRow : OpenClaim := { program := "ytpengkmmgpoofaa", sum := "31eb18f14dd360d8773bb009ca0eff4c79b576052d9d6a064e4c006fa6b40e75", func := "collimator/collimatorlaw04.BitrowNil", spec := "bitrowNil", unfollowed := true, recurses := true, apart := false, narrowed := true }
def BitrowNilUptoSaid : Prop := bitrowNilUptoRow.holds Try.pinned (OpenSpec.upto bitrowNilSpec)

end Rows
end Go.Proofs.Ytpengkmmgpoofaa
