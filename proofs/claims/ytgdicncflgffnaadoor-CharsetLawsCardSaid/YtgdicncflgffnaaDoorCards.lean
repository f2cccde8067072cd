/-
  DERIVED. GIVEN WITH THE SEED: THE CARDS: each row of YtgdicncflgffnaaDoorRows.lean that lists a variable, with what it lists TIED to the program's text (the seventh form; the later family's looks); each row that meets fmt, with fmt's text TOLD by the authors' own Lean function (tested against real Go, not proved from fmt's source: count such statements apart). THE CARD IS WHAT COUNTS. Prove the row's statement (the work); the ties are given (YtgdicncflgffnaaDoorTie.lean); close each card by the builder's one call (the guide's Derived/Test/ToyasCard.lean, 'card_holds'). Laid BY PROGRAM, IN A SANDBOX (cutbox-door.mjs). By AI agents, Wed Nov 11 2026. No macro, syntax, notation, axiom, sorry.
-/
import Derived.Test.YtgdicncflgffnaaDoorRows
import GoSem.ClaimSeven
namespace Go.Proofs.YtgdicncflgffnaaDoor
namespace Rows

/-- THE TIED CARD OF 'collimatorlaw14.CharsetTells'. -/
def charsetTellsCard : Claim7 := { stood := { row := charsetTellsRow, standIns := [], harness := (true, "03abf2a432adb1c84ff71533cf69b39277f72785df52c25a0537aba3a7398417"), looks := false }, kinds := [], alts := [], laidByText := true, laidKinds := [.data], laidTests := true, laidLooks := .later }
def CharsetTellsCardSaid : Prop := Claim7.holds Tryd.pinned (.plain (OpenSpec.ofChange charsetTellsSpec)) charsetTellsCard

/-- THE TIED CARD OF 'collimatorlaw14.CharsetRanges'. -/
def charsetRangesCard : Claim7 := { stood := { row := charsetRangesRow, standIns := [], harness := (true, "03abf2a432adb1c84ff71533cf69b39277f72785df52c25a0537aba3a7398417"), looks := false }, kinds := [], alts := [], laidByText := true, laidKinds := [.data], laidTests := true, laidLooks := .later }
def CharsetRangesCardSaid : Prop := Claim7.holds Tryd.pinned (.plain (OpenSpec.ofChange charsetRangesSpec)) charsetRangesCard

/-- THE TIED CARD OF 'collimatorlaw14.CharsetMakes'. -/
def charsetMakesCard : Claim7 := { stood := { row := charsetMakesRow, standIns := [], harness := (true, "03abf2a432adb1c84ff71533cf69b39277f72785df52c25a0537aba3a7398417"), looks := false }, kinds := [], alts := [], laidByText := true, laidKinds := [.data], laidTests := true, laidLooks := .later }
def CharsetMakesCardSaid : Prop := Claim7.holds Tryd.pinned (.plain (OpenSpec.ofChange charsetMakesSpec)) charsetMakesCard

/-- THE TIED CARD OF 'collimatorlaw14.CharsetLaws'. -/
def charsetLawsCard : Claim7 := { stood := { row := charsetLawsRow, standIns := [], harness := (true, "03abf2a432adb1c84ff71533cf69b39277f72785df52c25a0537aba3a7398417"), looks := false }, kinds := [], alts := [], laidByText := true, laidKinds := [.data], laidTests := true, laidLooks := .later }
def CharsetLawsCardSaid : Prop := Claim7.holds Tryd.pinned (.plain (OpenSpec.ofChange charsetLawsSpec)) charsetLawsCard

/-- THE SECOND FORM's CARD OF 'collimatorlaw14.CharsetTells'. -/
def charsetTellsUptoCard : Claim7 := { stood := { row := charsetTellsUptoRow, standIns := [], harness := (true, "03abf2a432adb1c84ff71533cf69b39277f72785df52c25a0537aba3a7398417"), looks := false }, kinds := [], alts := [], laidByText := true, laidKinds := [.data], laidTests := true, laidLooks := .later }
def CharsetTellsUptoCardSaid : Prop := Claim7.holds Tryd.pinned (.plain (OpenSpec.upto charsetTellsSpec)) charsetTellsUptoCard

/-- THE SECOND FORM's CARD OF 'collimatorlaw14.CharsetRanges'. -/
def charsetRangesUptoCard : Claim7 := { stood := { row := charsetRangesUptoRow, standIns := [], harness := (true, "03abf2a432adb1c84ff71533cf69b39277f72785df52c25a0537aba3a7398417"), looks := false }, kinds := [], alts := [], laidByText := true, laidKinds := [.data], laidTests := true, laidLooks := .later }
def CharsetRangesUptoCardSaid : Prop := Claim7.holds Tryd.pinned (.plain (OpenSpec.upto charsetRangesSpec)) charsetRangesUptoCard

/-- THE SECOND FORM's CARD OF 'collimatorlaw14.CharsetMakes'. -/
def charsetMakesUptoCard : Claim7 := { stood := { row := charsetMakesUptoRow, standIns := [], harness := (true, "03abf2a432adb1c84ff71533cf69b39277f72785df52c25a0537aba3a7398417"), looks := false }, kinds := [], alts := [], laidByText := true, laidKinds := [.data], laidTests := true, laidLooks := .later }
def CharsetMakesUptoCardSaid : Prop := Claim7.holds Tryd.pinned (.plain (OpenSpec.upto charsetMakesSpec)) charsetMakesUptoCard

/-- THE SECOND FORM's CARD OF 'collimatorlaw14.CharsetLaws'. -/
def charsetLawsUptoCard : Claim7 := { stood := { row := charsetLawsUptoRow, standIns := [], harness := (true, "03abf2a432adb1c84ff71533cf69b39277f72785df52c25a0537aba3a7398417"), looks := false }, kinds := [], alts := [], laidByText := true, laidKinds := [.data], laidTests := true, laidLooks := .later }
def CharsetLawsUptoCardSaid : Prop := Claim7.holds Tryd.pinned (.plain (OpenSpec.upto charsetLawsSpec)) charsetLawsUptoCard
end Rows
end Go.Proofs.YtgdicncflgffnaaDoor
