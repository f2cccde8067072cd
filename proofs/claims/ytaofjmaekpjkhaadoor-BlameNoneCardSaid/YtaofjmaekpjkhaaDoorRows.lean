/-
  NARROWER THAN 'FOR EVERY INPUT', by the rows' own cells (each row's printed sentence says how): BlameCodes: laid · BlameChains: laid · BlameInner: laid · BlameNone: laid.
  DERIVED. THE GIVEN ROWS OF THIS SEAT. 4 by the template 'for every input the law returns true; each argument reads behind the call as it read before'; 0 by the template 'total and deterministic' (their statements: YtaofjmaekpjkhaaDoorTotals.lean).
  GIVEN WITH THE SEED: the statements are not yours to turn. If you find one false, say at which input.
  Laid BY PROGRAM, IN A SANDBOX (cutbox-rows.mjs): the forced cells as the released guide's own fill.sh prints them over the translation a2984b62682fe934… (all of the seat's roots in one cut). By AI agents, Wed Nov 11 2026. No macro, syntax, notation, axiom, sorry.
-/
import Derived.Test.YtaofjmaekpjkhaaDoorChecked
import GoSem.Claim
import GoSem.ClaimJoined
import GoSem.ClaimMapViews
import Derived.JoinedTies
import Derived.KernelRfl
namespace Go.Proofs.YtaofjmaekpjkhaaDoor
/- THE CELL 'sum', in the pinned program and in every row, IS THE sha256 OF THE DUMP (.gsa) THAT YtaofjmaekpjkhaaDoorProg.lean LOADS. Nothing in Lean hashes anything: it is a label: what it is worth is what the hold of that sum in a sandbox is worth. -/
noncomputable def Tryd.pinned : Pinned := { name := "ytaofjmaekpjkhaadoor", sum := "a2984b62682fe934faeb19fb9c03f7bf860b5548d54c68e086d1a3f02e2ff1de", checked := Tryd.checked }
namespace Rows
def none {H : Type} : Left H := { results := [], args := [] }

/- WHAT THE LISTED PACKAGE-LEVEL VARIABLES READ AS WHEN THE CALL BEGINS. Each datum BY PROGRAM (the guide's laid-datum.mjs) off the statement by which the dump's own 'gosem.cut.vars' lays the variable. In a bare row this is a premise. The card (YtaofjmaekpjkhaaDoorCards.lean) ties it to the program's text. -/
def laid_errors_errorType {H : Type} : DataW H := .iface "internal/reflectlite.rtype" (.agg [.ptr (.lit (.string [101, 114, 114, 111, 114]))])
def laid_collimator_blame_errBytes {H : Type} : DataW H := .iface "*errors.errorString" (.ptr (.agg [.lit (.string [98, 121, 116, 101, 115])]))
def laid_collimator_blame_errCodes {H : Type} : DataW H := .iface "*errors.errorString" (.ptr (.agg [.lit (.string [99, 111, 100, 101, 115])]))
def laid_collimator_blame_errTexts {H : Type} : DataW H := .iface "*errors.errorString" (.ptr (.agg [.lit (.string [116, 101, 120, 116, 115])]))
def laid_collimator_blame_errRoom {H : Type} : DataW H := .iface "*errors.errorString" (.ptr (.agg [.lit (.string [114, 111, 111, 109])]))
def laid_collimator_blame_errOther {H : Type} : DataW H := .iface "*errors.errorString" (.ptr (.agg [.lit (.string [111, 116, 104, 101, 114])]))

/-- 'collimatorlaw03.BlameCodes': WHATEVER THE INPUT: true; the input reads as it did. -/
def blameCodesSpec : ChangeSpec := { name := "blameCodes", fn := fun _ => fun
  | [d1, d2] => { results := [.lit (.bool true)], args := [d1, d2] }
  | _ => none }
def blameCodesRow : OpenClaim := { program := "ytaofjmaekpjkhaadoor", sum := "a2984b62682fe934faeb19fb9c03f7bf860b5548d54c68e086d1a3f02e2ff1de", func := "collimator/collimatorlaw03.BlameCodes", spec := "blameCodes", inPlace := ["internal/reflectlite.ValueOf", "(internal/reflectlite.Value).Type", "(internal/reflectlite.Value).IsNil", "internal/reflectlite.TypeOf", "(internal/reflectlite.Value).Elem", "(internal/reflectlite.Value).Set"], unfollowed := true, recurses := true, named := ["collimator/blame.errBytes", "collimator/blame.errCodes", "collimator/blame.errTexts", "collimator/blame.errRoom", "collimator/blame.errOther", "errors.errorType"], apart := false, laid := [("errors.errorType", laid_errors_errorType), ("collimator/blame.errBytes", laid_collimator_blame_errBytes), ("collimator/blame.errCodes", laid_collimator_blame_errCodes), ("collimator/blame.errTexts", laid_collimator_blame_errTexts), ("collimator/blame.errRoom", laid_collimator_blame_errRoom), ("collimator/blame.errOther", laid_collimator_blame_errOther)] }
def BlameCodesSaid : Prop := blameCodesRow.holds Tryd.pinned (OpenSpec.ofChange blameCodesSpec)

/-- ITS FALSE NEIGHBOUR: 'it returns false'. Refute it at one input. -/
def blameCodesWrong : ChangeSpec := { name := "blameCodes", fn := fun _ => fun
  | [d1, d2] => { results := [.lit (.bool false)], args := [d1, d2] }
  | _ => none }
def BlameCodesWrongFalsely : Prop := blameCodesRow.holds Tryd.pinned (OpenSpec.ofChange blameCodesWrong)

/-- 'collimatorlaw03.BlameChains': WHATEVER THE INPUT: true; the input reads as it did. -/
def blameChainsSpec : ChangeSpec := { name := "blameChains", fn := fun _ => fun
  | [d1, d2] => { results := [.lit (.bool true)], args := [d1, d2] }
  | _ => none }
def blameChainsRow : OpenClaim := { program := "ytaofjmaekpjkhaadoor", sum := "a2984b62682fe934faeb19fb9c03f7bf860b5548d54c68e086d1a3f02e2ff1de", func := "collimator/collimatorlaw03.BlameChains", spec := "blameChains", inPlace := ["internal/reflectlite.ValueOf", "(internal/reflectlite.Value).Type", "(internal/reflectlite.Value).IsNil", "internal/reflectlite.TypeOf", "(internal/reflectlite.Value).Elem", "(internal/reflectlite.Value).Set"], unfollowed := true, recurses := true, named := ["collimator/blame.errBytes", "collimator/blame.errCodes", "collimator/blame.errTexts", "collimator/blame.errRoom", "collimator/blame.errOther", "errors.errorType"], apart := false, laid := [("errors.errorType", laid_errors_errorType), ("collimator/blame.errBytes", laid_collimator_blame_errBytes), ("collimator/blame.errCodes", laid_collimator_blame_errCodes), ("collimator/blame.errTexts", laid_collimator_blame_errTexts), ("collimator/blame.errRoom", laid_collimator_blame_errRoom), ("collimator/blame.errOther", laid_collimator_blame_errOther)] }
def BlameChainsSaid : Prop := blameChainsRow.holds Tryd.pinned (OpenSpec.ofChange blameChainsSpec)

/-- ITS FALSE NEIGHBOUR: 'it returns false'. Refute it at one input. -/
def blameChainsWrong : ChangeSpec := { name := "blameChains", fn := fun _ => fun
  | [d1, d2] => { results := [.lit (.bool false)], args := [d1, d2] }
  | _ => none }
def BlameChainsWrongFalsely : Prop := blameChainsRow.holds Tryd.pinned (OpenSpec.ofChange blameChainsWrong)

/-- 'collimatorlaw03.BlameInner': WHATEVER THE INPUT: true; the input reads as it did. -/
def blameInnerSpec : ChangeSpec := { name := "blameInner", fn := fun _ => fun
  | [d1, d2] => { results := [.lit (.bool true)], args := [d1, d2] }
  | _ => none }
def blameInnerRow : OpenClaim := { program := "ytaofjmaekpjkhaadoor", sum := "a2984b62682fe934faeb19fb9c03f7bf860b5548d54c68e086d1a3f02e2ff1de", func := "collimator/collimatorlaw03.BlameInner", spec := "blameInner", inPlace := ["internal/reflectlite.ValueOf", "(internal/reflectlite.Value).Type", "(internal/reflectlite.Value).IsNil", "internal/reflectlite.TypeOf", "(internal/reflectlite.Value).Elem", "(internal/reflectlite.Value).Set"], unfollowed := true, recurses := true, named := ["collimator/blame.errBytes", "collimator/blame.errCodes", "collimator/blame.errTexts", "collimator/blame.errRoom", "collimator/blame.errOther", "errors.errorType"], apart := false, laid := [("errors.errorType", laid_errors_errorType), ("collimator/blame.errBytes", laid_collimator_blame_errBytes), ("collimator/blame.errCodes", laid_collimator_blame_errCodes), ("collimator/blame.errTexts", laid_collimator_blame_errTexts), ("collimator/blame.errRoom", laid_collimator_blame_errRoom), ("collimator/blame.errOther", laid_collimator_blame_errOther)] }
def BlameInnerSaid : Prop := blameInnerRow.holds Tryd.pinned (OpenSpec.ofChange blameInnerSpec)

/-- ITS FALSE NEIGHBOUR: 'it returns false'. Refute it at one input. -/
def blameInnerWrong : ChangeSpec := { name := "blameInner", fn := fun _ => fun
  | [d1, d2] => { results := [.lit (.bool false)], args := [d1, d2] }
  | _ => none }
def BlameInnerWrongFalsely : Prop := blameInnerRow.holds Tryd.pinned (OpenSpec.ofChange blameInnerWrong)

/-- 'collimatorlaw03.BlameNone': WHATEVER THE INPUT: true; the input reads as it did. -/
def blameNoneSpec : ChangeSpec := { name := "blameNone", fn := fun _ => fun
  | [d1, d2] => { results := [.lit (.bool true)], args := [d1, d2] }
  | _ => none }
def blameNoneRow : OpenClaim := { program := "ytaofjmaekpjkhaadoor", sum := "a2984b62682fe934faeb19fb9c03f7bf860b5548d54c68e086d1a3f02e2ff1de", func := "collimator/collimatorlaw03.BlameNone", spec := "blameNone", inPlace := ["internal/reflectlite.ValueOf", "(internal/reflectlite.Value).Type", "(internal/reflectlite.Value).IsNil", "internal/reflectlite.TypeOf", "(internal/reflectlite.Value).Elem", "(internal/reflectlite.Value).Set"], unfollowed := true, recurses := true, named := ["errors.errorType", "collimator/blame.errBytes", "collimator/blame.errCodes", "collimator/blame.errTexts", "collimator/blame.errRoom", "collimator/blame.errOther"], apart := false, laid := [("errors.errorType", laid_errors_errorType), ("collimator/blame.errBytes", laid_collimator_blame_errBytes), ("collimator/blame.errCodes", laid_collimator_blame_errCodes), ("collimator/blame.errTexts", laid_collimator_blame_errTexts), ("collimator/blame.errRoom", laid_collimator_blame_errRoom), ("collimator/blame.errOther", laid_collimator_blame_errOther)] }
def BlameNoneSaid : Prop := blameNoneRow.holds Tryd.pinned (OpenSpec.ofChange blameNoneSpec)

/-- ITS FALSE NEIGHBOUR: 'it returns false'. Refute it at one input. -/
def blameNoneWrong : ChangeSpec := { name := "blameNone", fn := fun _ => fun
  | [d1, d2] => { results := [.lit (.bool false)], args := [d1, d2] }
  | _ => none }
def BlameNoneWrongFalsely : Prop := blameNoneRow.holds Tryd.pinned (OpenSpec.ofChange blameNoneWrong)

/- THE SECOND FORM. 'bulk': how many values and letters a reading holds, each counted each time it is reached (what is shared counts as often as it is met; a slice's spare places count too). A statement '..UptoSaid' is the law's where the arguments, and the package variables that the reading takes, are together of bulk at most 1048576: NARROWER than '..Said'. Prove '..Said' where nothing that the law and all that it calls make is longer than what came in: it says more and counts as full. Else prove '..UptoSaid'. A law counts once. -/
mutual
def uptoBulk {H : Type} : DataW H → Nat
  | .lit (.string bytes) => bytes.length + 1
  | .lit _ => 1
  | .nil => 1
  | .ptr d => uptoBulk d + 1
  | .slice elems spare => uptoBulkAll elems + uptoBulkAll spare + 1
  | .agg parts => uptoBulkAll parts + 1
  | .iface _ d => uptoBulk d + 1
  | .map entries => uptoBulkEntries entries + 1
  | .held _ => 1
def uptoBulkAll {H : Type} : List (DataW H) → Nat
  | [] => 0
  | d :: r => uptoBulk d + uptoBulkAll r
def uptoBulkEntries {H : Type} : List (Lit × DataW H) → Nat
  | [] => 0
  | x :: r => uptoBulkEntry x + uptoBulkEntries r
def uptoBulkEntry {H : Type} : Lit × DataW H → Nat
  | (.string bytes, d) => bytes.length + uptoBulk d + 1
  | (_, d) => uptoBulk d + 1
 end
def uptoSmall : (H : Type) → List (DataW H) → Bool := fun _ ds => decide (uptoBulkAll ds ≤ 1048576)
def OpenSpec.upto (s : _root_.Go.ChangeSpec) : _root_.Go.OpenSpec := { _root_.Go.OpenSpec.ofChange s with cond := some uptoSmall }

/-- 'collimatorlaw03.BlameCodes', WHERE WHAT IT READS IS OF BULK AT MOST 1048576: true; the input reads as it did. -/
def blameCodesUptoRow : OpenClaim := { program := "ytaofjmaekpjkhaadoor", sum := "a2984b62682fe934faeb19fb9c03f7bf860b5548d54c68e086d1a3f02e2ff1de", func := "collimator/collimatorlaw03.BlameCodes", spec := "blameCodes", inPlace := ["internal/reflectlite.ValueOf", "(internal/reflectlite.Value).Type", "(internal/reflectlite.Value).IsNil", "internal/reflectlite.TypeOf", "(internal/reflectlite.Value).Elem", "(internal/reflectlite.Value).Set"], unfollowed := true, recurses := true, named := ["collimator/blame.errBytes", "collimator/blame.errCodes", "collimator/blame.errTexts", "collimator/blame.errRoom", "collimator/blame.errOther", "errors.errorType"], apart := false, laid := [("errors.errorType", laid_errors_errorType), ("collimator/blame.errBytes", laid_collimator_blame_errBytes), ("collimator/blame.errCodes", laid_collimator_blame_errCodes), ("collimator/blame.errTexts", laid_collimator_blame_errTexts), ("collimator/blame.errRoom", laid_collimator_blame_errRoom), ("collimator/blame.errOther", laid_collimator_blame_errOther)], narrowed := true }
def BlameCodesUptoSaid : Prop := blameCodesUptoRow.holds Tryd.pinned (OpenSpec.upto blameCodesSpec)

/-- 'collimatorlaw03.BlameChains', WHERE WHAT IT READS IS OF BULK AT MOST 1048576: true; the input reads as it did. -/
def blameChainsUptoRow : OpenClaim := { program := "ytaofjmaekpjkhaadoor", sum := "a2984b62682fe934faeb19fb9c03f7bf860b5548d54c68e086d1a3f02e2ff1de", func := "collimator/collimatorlaw03.BlameChains", spec := "blameChains", inPlace := ["internal/reflectlite.ValueOf", "(internal/reflectlite.Value).Type", "(internal/reflectlite.Value).IsNil", "internal/reflectlite.TypeOf", "(internal/reflectlite.Value).Elem", "(internal/reflectlite.Value).Set"], unfollowed := true, recurses := true, named := ["collimator/blame.errBytes", "collimator/blame.errCodes", "collimator/blame.errTexts", "collimator/blame.errRoom", "collimator/blame.errOther", "errors.errorType"], apart := false, laid := [("errors.errorType", laid_errors_errorType), ("collimator/blame.errBytes", laid_collimator_blame_errBytes), ("collimator/blame.errCodes", laid_collimator_blame_errCodes), ("collimator/blame.errTexts", laid_collimator_blame_errTexts), ("collimator/blame.errRoom", laid_collimator_blame_errRoom), ("collimator/blame.errOther", laid_collimator_blame_errOther)], narrowed := true }
def BlameChainsUptoSaid : Prop := blameChainsUptoRow.holds Tryd.pinned (OpenSpec.upto blameChainsSpec)

/-- 'collimatorlaw03.BlameInner', WHERE WHAT IT READS IS OF BULK AT MOST 1048576: true; the input reads as it did. -/
def blameInnerUptoRow : OpenClaim := { program := "ytaofjmaekpjkhaadoor", sum := "a2984b62682fe934faeb19fb9c03f7bf860b5548d54c68e086d1a3f02e2ff1de", func := "collimator/collimatorlaw03.BlameInner", spec := "blameInner", inPlace := ["internal/reflectlite.ValueOf", "(internal/reflectlite.Value).Type", "(internal/reflectlite.Value).IsNil", "internal/reflectlite.TypeOf", "(internal/reflectlite.Value).Elem", "(internal/reflectlite.Value).Set"], unfollowed := true, recurses := true, named := ["collimator/blame.errBytes", "collimator/blame.errCodes", "collimator/blame.errTexts", "collimator/blame.errRoom", "collimator/blame.errOther", "errors.errorType"], apart := false, laid := [("errors.errorType", laid_errors_errorType), ("collimator/blame.errBytes", laid_collimator_blame_errBytes), ("collimator/blame.errCodes", laid_collimator_blame_errCodes), ("collimator/blame.errTexts", laid_collimator_blame_errTexts), ("collimator/blame.errRoom", laid_collimator_blame_errRoom), ("collimator/blame.errOther", laid_collimator_blame_errOther)], narrowed := true }
def BlameInnerUptoSaid : Prop := blameInnerUptoRow.holds Tryd.pinned (OpenSpec.upto blameInnerSpec)

/-- 'collimatorlaw03.BlameNone', WHERE WHAT IT READS IS OF BULK AT MOST 1048576: true; the input reads as it did. -/
def blameNoneUptoRow : OpenClaim := { program := "ytaofjmaekpjkhaadoor", sum := "a2984b62682fe934faeb19fb9c03f7bf860b5548d54c68e086d1a3f02e2ff1de", func := "collimator/collimatorlaw03.BlameNone", spec := "blameNone", inPlace := ["internal/reflectlite.ValueOf", "(internal/reflectlite.Value).Type", "(internal/reflectlite.Value).IsNil", "internal/reflectlite.TypeOf", "(internal/reflectlite.Value).Elem", "(internal/reflectlite.Value).Set"], unfollowed := true, recurses := true, named := ["errors.errorType", "collimator/blame.errBytes", "collimator/blame.errCodes", "collimator/blame.errTexts", "collimator/blame.errRoom", "collimator/blame.errOther"], apart := false, laid := [("errors.errorType", laid_errors_errorType), ("collimator/blame.errBytes", laid_collimator_blame_errBytes), ("collimator/blame.errCodes", laid_collimator_blame_errCodes), ("collimator/blame.errTexts", laid_collimator_blame_errTexts), ("collimator/blame.errRoom", laid_collimator_blame_errRoom), ("collimator/blame.errOther", laid_collimator_blame_errOther)], narrowed := true }
def BlameNoneUptoSaid : Prop := blameNoneUptoRow.holds Tryd.pinned (OpenSpec.upto blameNoneSpec)

end Rows
end Go.Proofs.YtaofjmaekpjkhaaDoor
