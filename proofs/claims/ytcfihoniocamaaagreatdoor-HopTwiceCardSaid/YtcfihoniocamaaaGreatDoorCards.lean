/-
  DERIVED. GIVEN WITH THE SEED: THE CARDS: each row of YtcfihoniocamaaaGreatDoorRows.lean that lists a variable, with what it lists TIED to the program's text (the seventh form; the later family's looks); each row that meets fmt, with fmt's text TOLD by the authors' own Lean function (tested against real Go, not proved from fmt's source: count such statements apart). THE CARD IS WHAT COUNTS. Prove the row's statement (the work); the ties are given (YtcfihoniocamaaaGreatDoorTie.lean); close each card by the builder's one call (the guide's Derived/Test/ToyasCard.lean, 'card_holds'). Laid BY PROGRAM, IN A SANDBOX (cutbox-door.mjs). By AI agents, Wed Nov 11 2026. No macro, syntax, notation, axiom, sorry.
-/
import Derived.Test.YtcfihoniocamaaaGreatDoorRows
import GoSem.ClaimSeven
namespace Go.Proofs.YtcfihoniocamaaaGreatDoor
namespace Rows

/-- THE TIED CARD OF 'intarsialaw13.HopCan'. -/
def hopCanCard : Claim7 := { stood := { row := hopCanRow, standIns := [], harness := (true, "259887b8a8917ad7a945c4376f8d4e7142b57dafaf203fd6034e2df1dd031a02"), looks := true }, kinds := [], alts := [], laidByText := true, laidKinds := [.data, .pinned], laidTests := true, laidLooks := .later }
def HopCanCardSaid : Prop := Claim7.holds Tryz.pinned (.plain (OpenSpec.ofChange hopCanSpec)) hopCanCard

/-- THE TIED CARD OF 'intarsialaw13.HopTwice'. -/
def hopTwiceCard : Claim7 := { stood := { row := hopTwiceRow, standIns := [], harness := (true, "259887b8a8917ad7a945c4376f8d4e7142b57dafaf203fd6034e2df1dd031a02"), looks := true }, kinds := [], alts := [], laidByText := true, laidKinds := [.data, .pinned], laidTests := true, laidLooks := .later }
def HopTwiceCardSaid : Prop := Claim7.holds Tryz.pinned (.plain (OpenSpec.ofChange hopTwiceSpec)) hopTwiceCard

/-- THE TIED CARD OF 'intarsialaw13.HopStrips'. -/
def hopStripsCard : Claim7 := { stood := { row := hopStripsRow, standIns := [], harness := (true, "259887b8a8917ad7a945c4376f8d4e7142b57dafaf203fd6034e2df1dd031a02"), looks := true }, kinds := [], alts := [], laidByText := true, laidKinds := [.data, .pinned], laidTests := true, laidLooks := .later }
def HopStripsCardSaid : Prop := Claim7.holds Tryz.pinned (.plain (OpenSpec.ofChange hopStripsSpec)) hopStripsCard

/-- THE TIED CARD OF 'intarsialaw12.SurrogateDevices'. -/
def surrogateDevicesCard : Claim7 := { stood := { row := surrogateDevicesRow, standIns := [], harness := (true, "259887b8a8917ad7a945c4376f8d4e7142b57dafaf203fd6034e2df1dd031a02"), looks := true }, kinds := [], alts := [], laidByText := true, laidKinds := [.data, .pinned], laidTests := true, laidLooks := .later }
def SurrogateDevicesCardSaid : Prop := Claim7.holds Tryz.pinned (.plain (OpenSpec.ofChange surrogateDevicesSpec)) surrogateDevicesCard

/-- THE SECOND FORM's CARD OF 'intarsialaw13.HopCan'. -/
def hopCanUptoCard : Claim7 := { stood := { row := hopCanUptoRow, standIns := [], harness := (true, "259887b8a8917ad7a945c4376f8d4e7142b57dafaf203fd6034e2df1dd031a02"), looks := true }, kinds := [], alts := [], laidByText := true, laidKinds := [.data, .pinned], laidTests := true, laidLooks := .later }
def HopCanUptoCardSaid : Prop := Claim7.holds Tryz.pinned (.plain (OpenSpec.upto hopCanSpec)) hopCanUptoCard

/-- THE SECOND FORM's CARD OF 'intarsialaw13.HopTwice'. -/
def hopTwiceUptoCard : Claim7 := { stood := { row := hopTwiceUptoRow, standIns := [], harness := (true, "259887b8a8917ad7a945c4376f8d4e7142b57dafaf203fd6034e2df1dd031a02"), looks := true }, kinds := [], alts := [], laidByText := true, laidKinds := [.data, .pinned], laidTests := true, laidLooks := .later }
def HopTwiceUptoCardSaid : Prop := Claim7.holds Tryz.pinned (.plain (OpenSpec.upto hopTwiceSpec)) hopTwiceUptoCard

/-- THE SECOND FORM's CARD OF 'intarsialaw13.HopStrips'. -/
def hopStripsUptoCard : Claim7 := { stood := { row := hopStripsUptoRow, standIns := [], harness := (true, "259887b8a8917ad7a945c4376f8d4e7142b57dafaf203fd6034e2df1dd031a02"), looks := true }, kinds := [], alts := [], laidByText := true, laidKinds := [.data, .pinned], laidTests := true, laidLooks := .later }
def HopStripsUptoCardSaid : Prop := Claim7.holds Tryz.pinned (.plain (OpenSpec.upto hopStripsSpec)) hopStripsUptoCard

/-- THE SECOND FORM's CARD OF 'intarsialaw12.SurrogateDevices'. -/
def surrogateDevicesUptoCard : Claim7 := { stood := { row := surrogateDevicesUptoRow, standIns := [], harness := (true, "259887b8a8917ad7a945c4376f8d4e7142b57dafaf203fd6034e2df1dd031a02"), looks := true }, kinds := [], alts := [], laidByText := true, laidKinds := [.data, .pinned], laidTests := true, laidLooks := .later }
def SurrogateDevicesUptoCardSaid : Prop := Claim7.holds Tryz.pinned (.plain (OpenSpec.upto surrogateDevicesSpec)) surrogateDevicesUptoCard
end Rows
end Go.Proofs.YtcfihoniocamaaaGreatDoor
