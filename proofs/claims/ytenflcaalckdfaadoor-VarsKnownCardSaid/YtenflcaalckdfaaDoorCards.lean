/-
  DERIVED. GIVEN WITH THE SEED: THE CARDS: each row of YtenflcaalckdfaaDoorRows.lean that lists a variable, with what it lists TIED to the program's text (the seventh form; the later family's looks); each row that meets fmt, with fmt's text TOLD by the authors' own Lean function (tested against real Go, not proved from fmt's source: count such statements apart). THE CARD IS WHAT COUNTS. Prove the row's statement (the work); the ties are given (YtenflcaalckdfaaDoorTie.lean); close each card by the builder's one call (the guide's Derived/Test/ToyasCard.lean, 'card_holds'). Laid BY PROGRAM, IN A SANDBOX (cutbox-door.mjs). By AI agents, Wed Nov 11 2026. No macro, syntax, notation, axiom, sorry.
-/
import Derived.Test.YtenflcaalckdfaaDoorRows
import GoSem.ClaimSeven
namespace Go.Proofs.YtenflcaalckdfaaDoor
namespace Rows

/-- THE TIED CARD OF 'intarsialaw17.VarsKnown'. -/
def varsKnownCard : Claim7 := { stood := { row := varsKnownRow, standIns := [], harness := (true, "57385407132330ee22878ae80f46d13c1ea92a8a51c6694ef85f90215d2869da"), looks := false }, kinds := [], alts := [], laidByText := true, laidKinds := [.data, .pinned], laidTests := true, laidLooks := .later }
def VarsKnownCardSaid : Prop := Claim7.holds Tryd.pinned (.plain (OpenSpec.ofChange varsKnownSpec)) varsKnownCard

/-- THE TIED CARD OF 'intarsialaw17.VarsTwice'. -/
def varsTwiceCard : Claim7 := { stood := { row := varsTwiceRow, standIns := [], harness := (true, "57385407132330ee22878ae80f46d13c1ea92a8a51c6694ef85f90215d2869da"), looks := false }, kinds := [], alts := [], laidByText := true, laidKinds := [.data, .pinned], laidTests := true, laidLooks := .later }
def VarsTwiceCardSaid : Prop := Claim7.holds Tryd.pinned (.plain (OpenSpec.ofChange varsTwiceSpec)) varsTwiceCard

/-- THE TIED CARD OF 'intarsialaw17.VarsJoins'. -/
def varsJoinsCard : Claim7 := { stood := { row := varsJoinsRow, standIns := [], harness := (true, "57385407132330ee22878ae80f46d13c1ea92a8a51c6694ef85f90215d2869da"), looks := false }, kinds := [], alts := [], laidByText := true, laidKinds := [.data, .pinned], laidTests := true, laidLooks := .later }
def VarsJoinsCardSaid : Prop := Claim7.holds Tryd.pinned (.plain (OpenSpec.ofChange varsJoinsSpec)) varsJoinsCard

/-- THE SECOND FORM's CARD OF 'intarsialaw17.VarsKnown'. -/
def varsKnownUptoCard : Claim7 := { stood := { row := varsKnownUptoRow, standIns := [], harness := (true, "57385407132330ee22878ae80f46d13c1ea92a8a51c6694ef85f90215d2869da"), looks := false }, kinds := [], alts := [], laidByText := true, laidKinds := [.data, .pinned], laidTests := true, laidLooks := .later }
def VarsKnownUptoCardSaid : Prop := Claim7.holds Tryd.pinned (.plain (OpenSpec.upto varsKnownSpec)) varsKnownUptoCard

/-- THE SECOND FORM's CARD OF 'intarsialaw17.VarsTwice'. -/
def varsTwiceUptoCard : Claim7 := { stood := { row := varsTwiceUptoRow, standIns := [], harness := (true, "57385407132330ee22878ae80f46d13c1ea92a8a51c6694ef85f90215d2869da"), looks := false }, kinds := [], alts := [], laidByText := true, laidKinds := [.data, .pinned], laidTests := true, laidLooks := .later }
def VarsTwiceUptoCardSaid : Prop := Claim7.holds Tryd.pinned (.plain (OpenSpec.upto varsTwiceSpec)) varsTwiceUptoCard

/-- THE SECOND FORM's CARD OF 'intarsialaw17.VarsJoins'. -/
def varsJoinsUptoCard : Claim7 := { stood := { row := varsJoinsUptoRow, standIns := [], harness := (true, "57385407132330ee22878ae80f46d13c1ea92a8a51c6694ef85f90215d2869da"), looks := false }, kinds := [], alts := [], laidByText := true, laidKinds := [.data, .pinned], laidTests := true, laidLooks := .later }
def VarsJoinsUptoCardSaid : Prop := Claim7.holds Tryd.pinned (.plain (OpenSpec.upto varsJoinsSpec)) varsJoinsUptoCard
end Rows
end Go.Proofs.YtenflcaalckdfaaDoor
