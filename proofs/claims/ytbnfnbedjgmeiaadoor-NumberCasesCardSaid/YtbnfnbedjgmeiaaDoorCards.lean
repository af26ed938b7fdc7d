/-
  DERIVED. GIVEN WITH THE SEED: THE CARDS: each row of YtbnfnbedjgmeiaaDoorRows.lean that lists a variable, with what it lists TIED to the program's text (the seventh form; the later family's looks); each row that meets fmt, with fmt's text TOLD by the authors' own Lean function (tested against real Go, not proved from fmt's source: count such statements apart). THE CARD IS WHAT COUNTS. Prove the row's statement (the work); the ties are given (YtbnfnbedjgmeiaaDoorTie.lean); close each card by the builder's one call (the guide's Derived/Test/ToyasCard.lean, 'card_holds'). Laid BY PROGRAM, IN A SANDBOX (cutbox-door.mjs). By AI agents, Wed Nov 11 2026. No macro, syntax, notation, axiom, sorry.
-/
import Derived.Test.YtbnfnbedjgmeiaaDoorRows
import GoSem.ClaimSeven
namespace Go.Proofs.YtbnfnbedjgmeiaaDoor
namespace Rows

/-- THE TIED CARD OF 'intarsialaw02.NumberCases'. -/
def numberCasesCard : Claim7 := { stood := { row := numberCasesRow, standIns := [], harness := (true, "91d49b3b7f6acf1bb0f12ecdf9eec3ea701292ce2042cd51171f9f9b327523bb"), looks := false }, kinds := [], alts := [], laidByText := true, laidKinds := [.data, .data, .data], laidTests := true, laidLooks := .later }
def NumberCasesCardSaid : Prop := Claim7.holds Tryd.pinned (.plain (OpenSpec.ofChange numberCasesSpec)) numberCasesCard

/-- THE TIED CARD OF 'intarsialaw02.NumberDigits'. -/
def numberDigitsCard : Claim7 := { stood := { row := numberDigitsRow, standIns := [], harness := (true, "91d49b3b7f6acf1bb0f12ecdf9eec3ea701292ce2042cd51171f9f9b327523bb"), looks := false }, kinds := [], alts := [], laidByText := true, laidKinds := [.data, .data, .data], laidTests := true, laidLooks := .later }
def NumberDigitsCardSaid : Prop := Claim7.holds Tryd.pinned (.plain (OpenSpec.ofChange numberDigitsSpec)) numberDigitsCard

/-- THE TIED CARD OF 'intarsialaw02.NumberBack'. -/
def numberBackCard : Claim7 := { stood := { row := numberBackRow, standIns := [], harness := (true, "91d49b3b7f6acf1bb0f12ecdf9eec3ea701292ce2042cd51171f9f9b327523bb"), looks := false }, kinds := [], alts := [], laidByText := true, laidKinds := [.data, .data, .data], laidTests := true, laidLooks := .later }
def NumberBackCardSaid : Prop := Claim7.holds Tryd.pinned (.plain (OpenSpec.ofChange numberBackSpec)) numberBackCard

/-- THE TIED CARD OF 'intarsialaw02.NumberOdd'. -/
def numberOddCard : Claim7 := { stood := { row := numberOddRow, standIns := [], harness := (true, "91d49b3b7f6acf1bb0f12ecdf9eec3ea701292ce2042cd51171f9f9b327523bb"), looks := false }, kinds := [], alts := [], laidByText := true, laidKinds := [.data, .data, .data], laidTests := true, laidLooks := .later }
def NumberOddCardSaid : Prop := Claim7.holds Tryd.pinned (.plain (OpenSpec.ofChange numberOddSpec)) numberOddCard

/-- THE SECOND FORM's CARD OF 'intarsialaw02.NumberCases'. -/
def numberCasesUptoCard : Claim7 := { stood := { row := numberCasesUptoRow, standIns := [], harness := (true, "91d49b3b7f6acf1bb0f12ecdf9eec3ea701292ce2042cd51171f9f9b327523bb"), looks := false }, kinds := [], alts := [], laidByText := true, laidKinds := [.data, .data, .data], laidTests := true, laidLooks := .later }
def NumberCasesUptoCardSaid : Prop := Claim7.holds Tryd.pinned (.plain (OpenSpec.upto numberCasesSpec)) numberCasesUptoCard

/-- THE SECOND FORM's CARD OF 'intarsialaw02.NumberDigits'. -/
def numberDigitsUptoCard : Claim7 := { stood := { row := numberDigitsUptoRow, standIns := [], harness := (true, "91d49b3b7f6acf1bb0f12ecdf9eec3ea701292ce2042cd51171f9f9b327523bb"), looks := false }, kinds := [], alts := [], laidByText := true, laidKinds := [.data, .data, .data], laidTests := true, laidLooks := .later }
def NumberDigitsUptoCardSaid : Prop := Claim7.holds Tryd.pinned (.plain (OpenSpec.upto numberDigitsSpec)) numberDigitsUptoCard

/-- THE SECOND FORM's CARD OF 'intarsialaw02.NumberBack'. -/
def numberBackUptoCard : Claim7 := { stood := { row := numberBackUptoRow, standIns := [], harness := (true, "91d49b3b7f6acf1bb0f12ecdf9eec3ea701292ce2042cd51171f9f9b327523bb"), looks := false }, kinds := [], alts := [], laidByText := true, laidKinds := [.data, .data, .data], laidTests := true, laidLooks := .later }
def NumberBackUptoCardSaid : Prop := Claim7.holds Tryd.pinned (.plain (OpenSpec.upto numberBackSpec)) numberBackUptoCard

/-- THE SECOND FORM's CARD OF 'intarsialaw02.NumberOdd'. -/
def numberOddUptoCard : Claim7 := { stood := { row := numberOddUptoRow, standIns := [], harness := (true, "91d49b3b7f6acf1bb0f12ecdf9eec3ea701292ce2042cd51171f9f9b327523bb"), looks := false }, kinds := [], alts := [], laidByText := true, laidKinds := [.data, .data, .data], laidTests := true, laidLooks := .later }
def NumberOddUptoCardSaid : Prop := Claim7.holds Tryd.pinned (.plain (OpenSpec.upto numberOddSpec)) numberOddUptoCard
end Rows
end Go.Proofs.YtbnfnbedjgmeiaaDoor
