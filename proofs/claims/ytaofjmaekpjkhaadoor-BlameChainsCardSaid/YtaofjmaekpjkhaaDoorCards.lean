/-
  DERIVED. GIVEN WITH THE SEED: THE CARDS: each row of YtaofjmaekpjkhaaDoorRows.lean that lists a variable, with what it lists TIED to the program's text (the seventh form; the later family's looks); each row that meets fmt, with fmt's text TOLD by the authors' own Lean function (tested against real Go, not proved from fmt's source: count such statements apart). THE CARD IS WHAT COUNTS. Prove the row's statement (the work); the ties are given (YtaofjmaekpjkhaaDoorTie.lean); close each card by the builder's one call (the guide's Derived/Test/ToyasCard.lean, 'card_holds'). Laid BY PROGRAM, IN A SANDBOX (cutbox-door.mjs). By AI agents, Wed Nov 11 2026. No macro, syntax, notation, axiom, sorry.
-/
import Derived.Test.YtaofjmaekpjkhaaDoorRows
import GoSem.ClaimSeven
namespace Go.Proofs.YtaofjmaekpjkhaaDoor
namespace Rows

/-- THE TIED CARD OF 'collimatorlaw03.BlameCodes'. -/
def blameCodesCard : Claim7 := { stood := { row := blameCodesRow, standIns := [], harness := (true, "6195c366983093890cabaa3b35943222fd82600e1b8149f80de9ad75e166d668"), looks := true }, kinds := [], alts := [], laidByText := true, laidKinds := [.handle, .sentinel, .sentinel, .sentinel, .sentinel, .sentinel], laidTests := true, laidLooks := .later }
def BlameCodesCardSaid : Prop := Claim7.holds Tryd.pinned (.plain (OpenSpec.ofChange blameCodesSpec)) blameCodesCard

/-- THE TIED CARD OF 'collimatorlaw03.BlameChains'. -/
def blameChainsCard : Claim7 := { stood := { row := blameChainsRow, standIns := [], harness := (true, "6195c366983093890cabaa3b35943222fd82600e1b8149f80de9ad75e166d668"), looks := true }, kinds := [], alts := [], laidByText := true, laidKinds := [.handle, .sentinel, .sentinel, .sentinel, .sentinel, .sentinel], laidTests := true, laidLooks := .later }
def BlameChainsCardSaid : Prop := Claim7.holds Tryd.pinned (.plain (OpenSpec.ofChange blameChainsSpec)) blameChainsCard

/-- THE TIED CARD OF 'collimatorlaw03.BlameInner'. -/
def blameInnerCard : Claim7 := { stood := { row := blameInnerRow, standIns := [], harness := (true, "6195c366983093890cabaa3b35943222fd82600e1b8149f80de9ad75e166d668"), looks := true }, kinds := [], alts := [], laidByText := true, laidKinds := [.handle, .sentinel, .sentinel, .sentinel, .sentinel, .sentinel], laidTests := true, laidLooks := .later }
def BlameInnerCardSaid : Prop := Claim7.holds Tryd.pinned (.plain (OpenSpec.ofChange blameInnerSpec)) blameInnerCard

/-- THE TIED CARD OF 'collimatorlaw03.BlameNone'. -/
def blameNoneCard : Claim7 := { stood := { row := blameNoneRow, standIns := [], harness := (true, "6195c366983093890cabaa3b35943222fd82600e1b8149f80de9ad75e166d668"), looks := true }, kinds := [], alts := [], laidByText := true, laidKinds := [.handle, .sentinel, .sentinel, .sentinel, .sentinel, .sentinel], laidTests := true, laidLooks := .later }
def BlameNoneCardSaid : Prop := Claim7.holds Tryd.pinned (.plain (OpenSpec.ofChange blameNoneSpec)) blameNoneCard

/-- THE SECOND FORM's CARD OF 'collimatorlaw03.BlameCodes'. -/
def blameCodesUptoCard : Claim7 := { stood := { row := blameCodesUptoRow, standIns := [], harness := (true, "6195c366983093890cabaa3b35943222fd82600e1b8149f80de9ad75e166d668"), looks := true }, kinds := [], alts := [], laidByText := true, laidKinds := [.handle, .sentinel, .sentinel, .sentinel, .sentinel, .sentinel], laidTests := true, laidLooks := .later }
def BlameCodesUptoCardSaid : Prop := Claim7.holds Tryd.pinned (.plain (OpenSpec.upto blameCodesSpec)) blameCodesUptoCard

/-- THE SECOND FORM's CARD OF 'collimatorlaw03.BlameChains'. -/
def blameChainsUptoCard : Claim7 := { stood := { row := blameChainsUptoRow, standIns := [], harness := (true, "6195c366983093890cabaa3b35943222fd82600e1b8149f80de9ad75e166d668"), looks := true }, kinds := [], alts := [], laidByText := true, laidKinds := [.handle, .sentinel, .sentinel, .sentinel, .sentinel, .sentinel], laidTests := true, laidLooks := .later }
def BlameChainsUptoCardSaid : Prop := Claim7.holds Tryd.pinned (.plain (OpenSpec.upto blameChainsSpec)) blameChainsUptoCard

/-- THE SECOND FORM's CARD OF 'collimatorlaw03.BlameInner'. -/
def blameInnerUptoCard : Claim7 := { stood := { row := blameInnerUptoRow, standIns := [], harness := (true, "6195c366983093890cabaa3b35943222fd82600e1b8149f80de9ad75e166d668"), looks := true }, kinds := [], alts := [], laidByText := true, laidKinds := [.handle, .sentinel, .sentinel, .sentinel, .sentinel, .sentinel], laidTests := true, laidLooks := .later }
def BlameInnerUptoCardSaid : Prop := Claim7.holds Tryd.pinned (.plain (OpenSpec.upto blameInnerSpec)) blameInnerUptoCard

/-- THE SECOND FORM's CARD OF 'collimatorlaw03.BlameNone'. -/
def blameNoneUptoCard : Claim7 := { stood := { row := blameNoneUptoRow, standIns := [], harness := (true, "6195c366983093890cabaa3b35943222fd82600e1b8149f80de9ad75e166d668"), looks := true }, kinds := [], alts := [], laidByText := true, laidKinds := [.handle, .sentinel, .sentinel, .sentinel, .sentinel, .sentinel], laidTests := true, laidLooks := .later }
def BlameNoneUptoCardSaid : Prop := Claim7.holds Tryd.pinned (.plain (OpenSpec.upto blameNoneSpec)) blameNoneUptoCard
end Rows
end Go.Proofs.YtaofjmaekpjkhaaDoor
