/-
  DERIVED. GIVEN WITH THE SEED: THE CARDS: each row of YtpklbelhdfkjpaaDoorRows.lean that lists a variable, with what it lists TIED to the program's text (the seventh form; the later family's looks); each row that meets fmt, with fmt's text TOLD by the authors' own Lean function (tested against real Go, not proved from fmt's source: count such statements apart). THE CARD IS WHAT COUNTS. Prove the row's statement (the work); the ties are given (YtpklbelhdfkjpaaDoorTie.lean); close each card by the builder's one call (the guide's Derived/Test/ToyasCard.lean, 'card_holds'). Laid BY PROGRAM, IN A SANDBOX (cutbox-door.mjs). By AI agents, Wed Nov 11 2026. No macro, syntax, notation, axiom, sorry.
-/
import Derived.Test.YtpklbelhdfkjpaaDoorRows
import GoSem.ClaimSeven
namespace Go.Proofs.YtpklbelhdfkjpaaDoor
namespace Rows

/-- THE TIED CARD OF 'intarsialaw07.HeadBack'. -/
def headBackCard : Claim7 := { stood := { row := headBackRow, standIns := [], harness := (true, "915ca6566361e6df5abf6163cb4b363e0677047b6b4cceab013a15011087c7c8"), looks := false }, kinds := [], alts := [], laidByText := true, laidKinds := [.data, .pinned], laidTests := true, laidLooks := .later }
def HeadBackCardSaid : Prop := Claim7.holds Tryd.pinned (.plain (OpenSpec.ofChange headBackSpec)) headBackCard

/-- THE TIED CARD OF 'intarsialaw07.HeadJoins'. -/
def headJoinsCard : Claim7 := { stood := { row := headJoinsRow, standIns := [], harness := (true, "915ca6566361e6df5abf6163cb4b363e0677047b6b4cceab013a15011087c7c8"), looks := false }, kinds := [], alts := [], laidByText := true, laidKinds := [.data, .pinned], laidTests := true, laidLooks := .later }
def HeadJoinsCardSaid : Prop := Claim7.holds Tryd.pinned (.plain (OpenSpec.ofChange headJoinsSpec)) headJoinsCard

/-- THE TIED CARD OF 'intarsialaw07.HeadOne'. -/
def headOneCard : Claim7 := { stood := { row := headOneRow, standIns := [], harness := (true, "915ca6566361e6df5abf6163cb4b363e0677047b6b4cceab013a15011087c7c8"), looks := false }, kinds := [], alts := [], laidByText := true, laidKinds := [.data, .pinned], laidTests := true, laidLooks := .later }
def HeadOneCardSaid : Prop := Claim7.holds Tryd.pinned (.plain (OpenSpec.ofChange headOneSpec)) headOneCard

/-- THE TIED CARD OF 'intarsialaw07.HeadReads'. -/
def headReadsCard : Claim7 := { stood := { row := headReadsRow, standIns := [], harness := (true, "915ca6566361e6df5abf6163cb4b363e0677047b6b4cceab013a15011087c7c8"), looks := false }, kinds := [], alts := [], laidByText := true, laidKinds := [.data, .pinned], laidTests := true, laidLooks := .later }
def HeadReadsCardSaid : Prop := Claim7.holds Tryd.pinned (.plain (OpenSpec.ofChange headReadsSpec)) headReadsCard

/-- THE TIED CARD OF 'intarsialaw07.HeadEnds'. -/
def headEndsCard : Claim7 := { stood := { row := headEndsRow, standIns := [], harness := (true, "915ca6566361e6df5abf6163cb4b363e0677047b6b4cceab013a15011087c7c8"), looks := false }, kinds := [], alts := [], laidByText := true, laidKinds := [.data, .pinned], laidTests := true, laidLooks := .later }
def HeadEndsCardSaid : Prop := Claim7.holds Tryd.pinned (.plain (OpenSpec.ofChange headEndsSpec)) headEndsCard

/-- THE SECOND FORM's CARD OF 'intarsialaw07.HeadBack'. -/
def headBackUptoCard : Claim7 := { stood := { row := headBackUptoRow, standIns := [], harness := (true, "915ca6566361e6df5abf6163cb4b363e0677047b6b4cceab013a15011087c7c8"), looks := false }, kinds := [], alts := [], laidByText := true, laidKinds := [.data, .pinned], laidTests := true, laidLooks := .later }
def HeadBackUptoCardSaid : Prop := Claim7.holds Tryd.pinned (.plain (OpenSpec.upto headBackSpec)) headBackUptoCard

/-- THE SECOND FORM's CARD OF 'intarsialaw07.HeadJoins'. -/
def headJoinsUptoCard : Claim7 := { stood := { row := headJoinsUptoRow, standIns := [], harness := (true, "915ca6566361e6df5abf6163cb4b363e0677047b6b4cceab013a15011087c7c8"), looks := false }, kinds := [], alts := [], laidByText := true, laidKinds := [.data, .pinned], laidTests := true, laidLooks := .later }
def HeadJoinsUptoCardSaid : Prop := Claim7.holds Tryd.pinned (.plain (OpenSpec.upto headJoinsSpec)) headJoinsUptoCard

/-- THE SECOND FORM's CARD OF 'intarsialaw07.HeadOne'. -/
def headOneUptoCard : Claim7 := { stood := { row := headOneUptoRow, standIns := [], harness := (true, "915ca6566361e6df5abf6163cb4b363e0677047b6b4cceab013a15011087c7c8"), looks := false }, kinds := [], alts := [], laidByText := true, laidKinds := [.data, .pinned], laidTests := true, laidLooks := .later }
def HeadOneUptoCardSaid : Prop := Claim7.holds Tryd.pinned (.plain (OpenSpec.upto headOneSpec)) headOneUptoCard

/-- THE SECOND FORM's CARD OF 'intarsialaw07.HeadReads'. -/
def headReadsUptoCard : Claim7 := { stood := { row := headReadsUptoRow, standIns := [], harness := (true, "915ca6566361e6df5abf6163cb4b363e0677047b6b4cceab013a15011087c7c8"), looks := false }, kinds := [], alts := [], laidByText := true, laidKinds := [.data, .pinned], laidTests := true, laidLooks := .later }
def HeadReadsUptoCardSaid : Prop := Claim7.holds Tryd.pinned (.plain (OpenSpec.upto headReadsSpec)) headReadsUptoCard

/-- THE SECOND FORM's CARD OF 'intarsialaw07.HeadEnds'. -/
def headEndsUptoCard : Claim7 := { stood := { row := headEndsUptoRow, standIns := [], harness := (true, "915ca6566361e6df5abf6163cb4b363e0677047b6b4cceab013a15011087c7c8"), looks := false }, kinds := [], alts := [], laidByText := true, laidKinds := [.data, .pinned], laidTests := true, laidLooks := .later }
def HeadEndsUptoCardSaid : Prop := Claim7.holds Tryd.pinned (.plain (OpenSpec.upto headEndsSpec)) headEndsUptoCard
end Rows
end Go.Proofs.YtpklbelhdfkjpaaDoor
