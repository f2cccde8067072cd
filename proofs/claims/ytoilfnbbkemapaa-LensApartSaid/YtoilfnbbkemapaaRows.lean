/-
  No cell of these rows narrows 'for every input' (looked for: loops, veiled, ifaces, maps, wideKeys, modest, calm, conditions, laid).
  DERIVED. THE GIVEN ROWS OF THIS SEAT. 4 by the template 'for every input the law returns true; each argument reads behind the call as it read before'; 0 by the template 'total and deterministic' (their statements: YtoilfnbbkemapaaTotals.lean).
  GIVEN WITH THE SEED: the statements are not yours to turn. If you find one false, say at which input.
  Laid BY PROGRAM, IN A SANDBOX (cutbox-rows.mjs): the forced cells as the released guide's own fill.sh prints them over the translation 610d8eb7c4989291… (all of the seat's roots in one cut). By AI agents, Wed Nov 11 2026. No macro, syntax, notation, axiom, sorry.
-/
import Derived.Test.YtoilfnbbkemapaaChecked
import GoSem.Claim
import GoSem.ClaimJoined
import GoSem.ClaimMapViews
import Derived.JoinedTies
import Derived.KernelRfl
namespace Go.Proofs.Ytoilfnbbkemapaa
/- THE CELL 'sum', in the pinned program and in every row, IS THE sha256 OF THE DUMP (.gsa) THAT YtoilfnbbkemapaaProg.lean LOADS. Nothing in Lean hashes anything: it is a label: what it is worth is what the hold of that sum in a sandbox is worth. -/
noncomputable def Try.pinned : Pinned := { name := "ytoilfnbbkemapaa", sum := "610d8eb7c498929107e0302e8c6d3fc783516c7ca0034aff33f6db7ef3c018bf", checked := Try.checked }
namespace Rows
def none {H : Type} : Left H := { results := [], args := [] }

/-- 'collimatorlaw05.LensCodes': WHATEVER THE INPUT: true; the input reads as it did. -/
def lensCodesSpec : ChangeSpec := { name := "lensCodes", fn := fun _ => fun
  | [d1, d2] => { results := [.lit (.bool true)], args := [d1, d2] }
  | _ => none }
def lensCodesRow : OpenClaim := { program := "ytoilfnbbkemapaa", sum := "610d8eb7c498929107e0302e8c6d3fc783516c7ca0034aff33f6db7ef3c018bf", func := "collimator/collimatorlaw05.LensCodes", spec := "lensCodes", apart := false }
def LensCodesSaid : Prop := lensCodesRow.holds Try.pinned (OpenSpec.ofChange lensCodesSpec)

/-- ITS FALSE NEIGHBOUR: 'it returns false'. Refute it at one input. -/
def lensCodesWrong : ChangeSpec := { name := "lensCodes", fn := fun _ => fun
  | [d1, d2] => { results := [.lit (.bool false)], args := [d1, d2] }
  | _ => none }
def LensCodesWrongFalsely : Prop := lensCodesRow.holds Try.pinned (OpenSpec.ofChange lensCodesWrong)

/-- 'collimatorlaw05.LensApart': WHATEVER THE INPUT: true; the input reads as it did. -/
def lensApartSpec : ChangeSpec := { name := "lensApart", fn := fun _ => fun
  | [d] => { results := [.lit (.bool true)], args := [d] }
  | _ => none }
def lensApartRow : OpenClaim := { program := "ytoilfnbbkemapaa", sum := "610d8eb7c498929107e0302e8c6d3fc783516c7ca0034aff33f6db7ef3c018bf", func := "collimator/collimatorlaw05.LensApart", spec := "lensApart", apart := false }
def LensApartSaid : Prop := lensApartRow.holds Try.pinned (OpenSpec.ofChange lensApartSpec)

/-- ITS FALSE NEIGHBOUR: 'it returns false'. Refute it at one input. -/
def lensApartWrong : ChangeSpec := { name := "lensApart", fn := fun _ => fun
  | [d] => { results := [.lit (.bool false)], args := [d] }
  | _ => none }
def LensApartWrongFalsely : Prop := lensApartRow.holds Try.pinned (OpenSpec.ofChange lensApartWrong)

/-- 'collimatorlaw05.LensWhole': WHATEVER THE INPUT: true; the input reads as it did. -/
def lensWholeSpec : ChangeSpec := { name := "lensWhole", fn := fun _ => fun
  | [d1, d2] => { results := [.lit (.bool true)], args := [d1, d2] }
  | _ => none }
def lensWholeRow : OpenClaim := { program := "ytoilfnbbkemapaa", sum := "610d8eb7c498929107e0302e8c6d3fc783516c7ca0034aff33f6db7ef3c018bf", func := "collimator/collimatorlaw05.LensWhole", spec := "lensWhole", apart := false }
def LensWholeSaid : Prop := lensWholeRow.holds Try.pinned (OpenSpec.ofChange lensWholeSpec)

/-- ITS FALSE NEIGHBOUR: 'it returns false'. Refute it at one input. -/
def lensWholeWrong : ChangeSpec := { name := "lensWhole", fn := fun _ => fun
  | [d1, d2] => { results := [.lit (.bool false)], args := [d1, d2] }
  | _ => none }
def LensWholeWrongFalsely : Prop := lensWholeRow.holds Try.pinned (OpenSpec.ofChange lensWholeWrong)

/-- 'collimatorlaw05.LensOrder': WHATEVER THE INPUT: true; the input reads as it did. -/
def lensOrderSpec : ChangeSpec := { name := "lensOrder", fn := fun _ => fun
  | [d1, d2, d3] => { results := [.lit (.bool true)], args := [d1, d2, d3] }
  | _ => none }
def lensOrderRow : OpenClaim := { program := "ytoilfnbbkemapaa", sum := "610d8eb7c498929107e0302e8c6d3fc783516c7ca0034aff33f6db7ef3c018bf", func := "collimator/collimatorlaw05.LensOrder", spec := "lensOrder", apart := false }
def LensOrderSaid : Prop := lensOrderRow.holds Try.pinned (OpenSpec.ofChange lensOrderSpec)

/-- ITS FALSE NEIGHBOUR: 'it returns false'. Refute it at one input. -/
def lensOrderWrong : ChangeSpec := { name := "lensOrder", fn := fun _ => fun
  | [d1, d2, d3] => { results := [.lit (.bool false)], args := [d1, d2, d3] }
  | _ => none }
def LensOrderWrongFalsely : Prop := lensOrderRow.holds Try.pinned (OpenSpec.ofChange lensOrderWrong)

/- THE SECOND FORM. 'bulk': how many values and letters a reading holds, each counted each time it is reached (what is shared counts as often as it is met; a slice's spare places count too). A statement '..UptoSaid' is the law's where the arguments, and the package variables that the reading takes, are together of bulk at most 1048576: NARROWER than '..Said'. Prove '..Said' where nothing that the law and all that it calls make is longer than what came in: it says more and counts as full. Else prove '..UptoSaid'. A law counts once. -/
mutual
def uptoBulk {H : Type} : DataW H → Nat
  | .lit (.string bytes) => bytes.length + 1
  | .lit _ => 1
  | .nil => 1
  | .ptr d => uptoBulk d + 1
  | .slice elems spare => uptoBulkAll elems + uptoBulkAll spare + 1
  | .agg parts => uptoBulkAll parts + 1
  | .iface _ d => uptoBulk d + 1
  | .map entries => uptoBulkEntries entries + 1
  | .held _ => 1
def uptoBulkAll {H : Type} : List (DataW H) → Nat
  | [] => 0
  | d :: r => uptoBulk d + uptoBulkAll r
def uptoBulkEntries {H : Type} : List (Lit × DataW H) → Nat
  | [] => 0
  | x :: r => uptoBulkEntry x + uptoBulkEntries r
def uptoBulkEntry {H : Type} : Lit × DataW H → Nat
  | (.string bytes, d) => bytes.length + uptoBulk d + 1
  | (_, d) => uptoBulk d + 1
 end
def uptoSmall : (H : Type) → List (DataW H) → Bool := fun _ ds => decide (uptoBulkAll ds ≤ 1048576)
def OpenSpec.upto (s : _root_.Go.ChangeSpec) : _root_.Go.OpenSpec := { _root_.Go.OpenSpec.ofChange s with cond := some uptoSmall }

/-- 'collimatorlaw05.LensCodes', WHERE WHAT IT READS IS OF BULK AT MOST 1048576: true; the input reads as it did. -/
def lensCodesUptoRow : OpenClaim := { program := "ytoilfnbbkemapaa", sum := "610d8eb7c498929107e0302e8c6d3fc783516c7ca0034aff33f6db7ef3c018bf", func := "collimator/collimatorlaw05.LensCodes", spec := "lensCodes", apart := false, narrowed := true }
def LensCodesUptoSaid : Prop := lensCodesUptoRow.holds Try.pinned (OpenSpec.upto lensCodesSpec)

/-- 'collimatorlaw05.LensApart', WHERE WHAT IT READS IS OF BULK AT MOST 1048576: true; the input reads as it did. -/
def lensApartUptoRow : OpenClaim := { program := "ytoilfnbbkemapaa", sum := "610d8eb7c498929107e0302e8c6d3fc783516c7ca0034aff33f6db7ef3c018bf", func := "collimator/collimatorlaw05.LensApart", spec := "lensApart", apart := false, narrowed := true }
def LensApartUptoSaid : Prop := lensApartUptoRow.holds Try.pinned (OpenSpec.upto lensApartSpec)

/-- 'collimatorlaw05.LensWhole', WHERE WHAT IT READS IS OF BULK AT MOST 1048576: true; the input reads as it did. -/
def lensWholeUptoRow : OpenClaim := { program := "ytoilfnbbkemapaa", sum := "610d8eb7c498929107e0302e8c6d3fc783516c7ca0034aff33f6db7ef3c018bf", func := "collimator/collimatorlaw05.LensWhole", spec := "lensWhole", apart := false, narrowed := true }
def LensWholeUptoSaid : Prop := lensWholeUptoRow.holds Try.pinned (OpenSpec.upto lensWholeSpec)

/-- 'collimatorlaw05.LensOrder', WHERE WHAT IT READS IS OF BULK AT MOST 1048576: true; the input reads as it did. -/
def lensOrderUptoRow : OpenClaim := { program := "ytoilfnbbkemapaa", sum := "610d8eb7c498929107e0302e8c6d3fc783516c7ca0034aff33f6db7ef3c018bf", func := "collimator/collimatorlaw05.LensOrder", spec := "lensOrder", apart := false, narrowed := true }
def LensOrderUptoSaid : Prop := lensOrderUptoRow.holds Try.pinned (OpenSpec.upto lensOrderSpec)

end Rows
end Go.Proofs.Ytoilfnbbkemapaa
