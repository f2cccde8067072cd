/-
  DERIVED. GIVEN WITH THE SEED: THE CARDS: each row of YtcandjdomeompaaDoorRows.lean that lists a variable, with what it lists TIED to the program's text (the seventh form; the later family's looks); each row that meets fmt, with fmt's text TOLD by the authors' own Lean function (tested against real Go, not proved from fmt's source: count such statements apart). THE CARD IS WHAT COUNTS. Prove the row's statement (the work); the ties are given (YtcandjdomeompaaDoorTie.lean); close each card by the builder's one call (the guide's Derived/Test/ToyasCard.lean, 'card_holds'). Laid BY PROGRAM, IN A SANDBOX (cutbox-door.mjs). By AI agents, Wed Nov 11 2026. No macro, syntax, notation, axiom, sorry.
-/
import Derived.Test.YtcandjdomeompaaDoorRows
import GoSem.ClaimSeven
namespace Go.Proofs.YtcandjdomeompaaDoor
namespace Rows

/-- THE TIED CARD OF 'collimatorlaw15.RegexTrees'. -/
def regexTreesCard : Claim7 := { stood := { row := regexTreesRow, standIns := [], harness := (true, "7f998ae8b308b02c0f609856ba1da64fa1e65e6051442e0066a57e823e9a2387"), looks := false }, kinds := [], alts := [], laidByText := true, laidKinds := [.data], laidTests := true, laidLooks := .later }
def RegexTreesCardSaid : Prop := Claim7.holds Tryd.pinned (.plain (OpenSpec.ofChange regexTreesSpec)) regexTreesCard

/-- THE TIED CARD OF 'collimatorlaw15.RegexBack'. -/
def regexBackCard : Claim7 := { stood := { row := regexBackRow, standIns := [], harness := (true, "7f998ae8b308b02c0f609856ba1da64fa1e65e6051442e0066a57e823e9a2387"), looks := false }, kinds := [], alts := [], laidByText := true, laidKinds := [.data], laidTests := true, laidLooks := .later }
def RegexBackCardSaid : Prop := Claim7.holds Tryd.pinned (.plain (OpenSpec.ofChange regexBackSpec)) regexBackCard

/-- THE TIED CARD OF 'collimatorlaw15.RegexAgain'. -/
def regexAgainCard : Claim7 := { stood := { row := regexAgainRow, standIns := [], harness := (true, "7f998ae8b308b02c0f609856ba1da64fa1e65e6051442e0066a57e823e9a2387"), looks := false }, kinds := [], alts := [], laidByText := true, laidKinds := [.data], laidTests := true, laidLooks := .later }
def RegexAgainCardSaid : Prop := Claim7.holds Tryd.pinned (.plain (OpenSpec.ofChange regexAgainSpec)) regexAgainCard

/-- THE TIED CARD OF 'collimatorlaw15.RegexEmpty'. -/
def regexEmptyCard : Claim7 := { stood := { row := regexEmptyRow, standIns := [], harness := (true, "7f998ae8b308b02c0f609856ba1da64fa1e65e6051442e0066a57e823e9a2387"), looks := false }, kinds := [], alts := [], laidByText := true, laidKinds := [.data], laidTests := true, laidLooks := .later }
def RegexEmptyCardSaid : Prop := Claim7.holds Tryd.pinned (.plain (OpenSpec.ofChange regexEmptySpec)) regexEmptyCard

/-- THE SECOND FORM's CARD OF 'collimatorlaw15.RegexTrees'. -/
def regexTreesUptoCard : Claim7 := { stood := { row := regexTreesUptoRow, standIns := [], harness := (true, "7f998ae8b308b02c0f609856ba1da64fa1e65e6051442e0066a57e823e9a2387"), looks := false }, kinds := [], alts := [], laidByText := true, laidKinds := [.data], laidTests := true, laidLooks := .later }
def RegexTreesUptoCardSaid : Prop := Claim7.holds Tryd.pinned (.plain (OpenSpec.upto regexTreesSpec)) regexTreesUptoCard

/-- THE SECOND FORM's CARD OF 'collimatorlaw15.RegexBack'. -/
def regexBackUptoCard : Claim7 := { stood := { row := regexBackUptoRow, standIns := [], harness := (true, "7f998ae8b308b02c0f609856ba1da64fa1e65e6051442e0066a57e823e9a2387"), looks := false }, kinds := [], alts := [], laidByText := true, laidKinds := [.data], laidTests := true, laidLooks := .later }
def RegexBackUptoCardSaid : Prop := Claim7.holds Tryd.pinned (.plain (OpenSpec.upto regexBackSpec)) regexBackUptoCard

/-- THE SECOND FORM's CARD OF 'collimatorlaw15.RegexAgain'. -/
def regexAgainUptoCard : Claim7 := { stood := { row := regexAgainUptoRow, standIns := [], harness := (true, "7f998ae8b308b02c0f609856ba1da64fa1e65e6051442e0066a57e823e9a2387"), looks := false }, kinds := [], alts := [], laidByText := true, laidKinds := [.data], laidTests := true, laidLooks := .later }
def RegexAgainUptoCardSaid : Prop := Claim7.holds Tryd.pinned (.plain (OpenSpec.upto regexAgainSpec)) regexAgainUptoCard

/-- THE SECOND FORM's CARD OF 'collimatorlaw15.RegexEmpty'. -/
def regexEmptyUptoCard : Claim7 := { stood := { row := regexEmptyUptoRow, standIns := [], harness := (true, "7f998ae8b308b02c0f609856ba1da64fa1e65e6051442e0066a57e823e9a2387"), looks := false }, kinds := [], alts := [], laidByText := true, laidKinds := [.data], laidTests := true, laidLooks := .later }
def RegexEmptyUptoCardSaid : Prop := Claim7.holds Tryd.pinned (.plain (OpenSpec.upto regexEmptySpec)) regexEmptyUptoCard
end Rows
end Go.Proofs.YtcandjdomeompaaDoor
