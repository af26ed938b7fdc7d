/-
  DERIVED. GIVEN WITH THE SEED: THE CARDS: each row of YtenflcaalckdfaaGreatDoorRows.lean that lists a variable, with what it lists TIED to the program's text (the seventh form; the later family's looks); each row that meets fmt, with fmt's text TOLD by the authors' own Lean function (tested against real Go, not proved from fmt's source: count such statements apart). THE CARD IS WHAT COUNTS. Prove the row's statement (the work); the ties are given (YtenflcaalckdfaaGreatDoorTie.lean); close each card by the builder's one call (the guide's Derived/Test/ToyasCard.lean, 'card_holds'). Laid BY PROGRAM, IN A SANDBOX (cutbox-door.mjs). By AI agents, Wed Nov 11 2026. No macro, syntax, notation, axiom, sorry.
-/
import Derived.Test.YtenflcaalckdfaaGreatDoorRows
import GoSem.ClaimSeven
namespace Go.Proofs.YtenflcaalckdfaaGreatDoor
namespace Rows

/-- THE TIED CARD OF 'intarsialaw17.VarsSubs'. -/
def varsSubsCard : Claim7 := { stood := { row := varsSubsRow, standIns := [], harness := (true, "b997443191355eab06e8acaf817617440ef3ecc121d912e7d2b63ee2cc0fd740"), looks := false }, kinds := [], alts := [], laidByText := true, laidKinds := [.data, .pinned], laidTests := true, laidLooks := .later }
def VarsSubsCardSaid : Prop := Claim7.holds Tryz.pinned (.plain (OpenSpec.ofChange varsSubsSpec)) varsSubsCard

/-- THE TIED CARD OF 'intarsialaw17.VarsValues'. -/
def varsValuesCard : Claim7 := { stood := { row := varsValuesRow, standIns := [], harness := (true, "b997443191355eab06e8acaf817617440ef3ecc121d912e7d2b63ee2cc0fd740"), looks := false }, kinds := [], alts := [], laidByText := true, laidKinds := [.data, .pinned], laidTests := true, laidLooks := .later }
def VarsValuesCardSaid : Prop := Claim7.holds Tryz.pinned (.plain (OpenSpec.ofChange varsValuesSpec)) varsValuesCard

/-- THE TIED CARD OF 'intarsialaw17.VarsLangs'. -/
def varsLangsCard : Claim7 := { stood := { row := varsLangsRow, standIns := [], harness := (true, "b997443191355eab06e8acaf817617440ef3ecc121d912e7d2b63ee2cc0fd740"), looks := false }, kinds := [], alts := [], laidByText := true, laidKinds := [.data, .pinned, .pinned], laidTests := true, laidLooks := .later }
def VarsLangsCardSaid : Prop := Claim7.holds Tryz.pinned (.plain (OpenSpec.ofChange varsLangsSpec)) varsLangsCard

/-- THE SECOND FORM's CARD OF 'intarsialaw17.VarsSubs'. -/
def varsSubsUptoCard : Claim7 := { stood := { row := varsSubsUptoRow, standIns := [], harness := (true, "b997443191355eab06e8acaf817617440ef3ecc121d912e7d2b63ee2cc0fd740"), looks := false }, kinds := [], alts := [], laidByText := true, laidKinds := [.data, .pinned], laidTests := true, laidLooks := .later }
def VarsSubsUptoCardSaid : Prop := Claim7.holds Tryz.pinned (.plain (OpenSpec.upto varsSubsSpec)) varsSubsUptoCard

/-- THE SECOND FORM's CARD OF 'intarsialaw17.VarsValues'. -/
def varsValuesUptoCard : Claim7 := { stood := { row := varsValuesUptoRow, standIns := [], harness := (true, "b997443191355eab06e8acaf817617440ef3ecc121d912e7d2b63ee2cc0fd740"), looks := false }, kinds := [], alts := [], laidByText := true, laidKinds := [.data, .pinned], laidTests := true, laidLooks := .later }
def VarsValuesUptoCardSaid : Prop := Claim7.holds Tryz.pinned (.plain (OpenSpec.upto varsValuesSpec)) varsValuesUptoCard

/-- THE SECOND FORM's CARD OF 'intarsialaw17.VarsLangs'. -/
def varsLangsUptoCard : Claim7 := { stood := { row := varsLangsUptoRow, standIns := [], harness := (true, "b997443191355eab06e8acaf817617440ef3ecc121d912e7d2b63ee2cc0fd740"), looks := false }, kinds := [], alts := [], laidByText := true, laidKinds := [.data, .pinned, .pinned], laidTests := true, laidLooks := .later }
def VarsLangsUptoCardSaid : Prop := Claim7.holds Tryz.pinned (.plain (OpenSpec.upto varsLangsSpec)) varsLangsUptoCard
end Rows
end Go.Proofs.YtenflcaalckdfaaGreatDoor
