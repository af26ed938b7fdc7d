/-
  DERIVED. GIVEN WITH THE SEED: THE CARDS: each row of YtcfihoniocamaaaDoorRows.lean that lists a variable, with what it lists TIED to the program's text (the seventh form; the later family's looks); each row that meets fmt, with fmt's text TOLD by the authors' own Lean function (tested against real Go, not proved from fmt's source: count such statements apart). THE CARD IS WHAT COUNTS. Prove the row's statement (the work); the ties are given (YtcfihoniocamaaaDoorTie.lean); close each card by the builder's one call (the guide's Derived/Test/ToyasCard.lean, 'card_holds'). Laid BY PROGRAM, IN A SANDBOX (cutbox-door.mjs). By AI agents, Wed Nov 11 2026. No macro, syntax, notation, axiom, sorry.
-/
import Derived.Test.YtcfihoniocamaaaDoorRows
import GoSem.ClaimSeven
namespace Go.Proofs.YtcfihoniocamaaaDoor
namespace Rows

/-- THE TIED CARD OF 'intarsialaw13.HopStays'. -/
def hopStaysCard : Claim7 := { stood := { row := hopStaysRow, standIns := [], harness := (true, "63f9580b7cb982402a86b2f48a0c6983d0624c6aafaaa4da32e78efb78815540"), looks := false }, kinds := [], alts := [], laidByText := true, laidKinds := [.data, .pinned], laidTests := true, laidLooks := .later }
def HopStaysCardSaid : Prop := Claim7.holds Tryd.pinned (.plain (OpenSpec.ofChange hopStaysSpec)) hopStaysCard

/-- THE TIED CARD OF 'intarsialaw13.HopKeeps'. -/
def hopKeepsCard : Claim7 := { stood := { row := hopKeepsRow, standIns := [], harness := (true, "63f9580b7cb982402a86b2f48a0c6983d0624c6aafaaa4da32e78efb78815540"), looks := false }, kinds := [], alts := [], laidByText := true, laidKinds := [.data, .pinned], laidTests := true, laidLooks := .later }
def HopKeepsCardSaid : Prop := Claim7.holds Tryd.pinned (.plain (OpenSpec.ofChange hopKeepsSpec)) hopKeepsCard

/-- THE TIED CARD OF 'intarsialaw12.SurrogateReads'. -/
def surrogateReadsCard : Claim7 := { stood := { row := surrogateReadsRow, standIns := [], harness := (true, "63f9580b7cb982402a86b2f48a0c6983d0624c6aafaaa4da32e78efb78815540"), looks := false }, kinds := [], alts := [], laidByText := true, laidKinds := [.data, .pinned], laidTests := true, laidLooks := .later }
def SurrogateReadsCardSaid : Prop := Claim7.holds Tryd.pinned (.plain (OpenSpec.ofChange surrogateReadsSpec)) surrogateReadsCard

/-- THE TIED CARD OF 'intarsialaw12.SurrogateBack'. -/
def surrogateBackCard : Claim7 := { stood := { row := surrogateBackRow, standIns := [], harness := (true, "63f9580b7cb982402a86b2f48a0c6983d0624c6aafaaa4da32e78efb78815540"), looks := false }, kinds := [], alts := [], laidByText := true, laidKinds := [.data, .pinned], laidTests := true, laidLooks := .later }
def SurrogateBackCardSaid : Prop := Claim7.holds Tryd.pinned (.plain (OpenSpec.ofChange surrogateBackSpec)) surrogateBackCard

/-- THE TIED CARD OF 'intarsialaw12.SurrogateJoins'. -/
def surrogateJoinsCard : Claim7 := { stood := { row := surrogateJoinsRow, standIns := [], harness := (true, "63f9580b7cb982402a86b2f48a0c6983d0624c6aafaaa4da32e78efb78815540"), looks := false }, kinds := [], alts := [], laidByText := true, laidKinds := [.data, .pinned], laidTests := true, laidLooks := .later }
def SurrogateJoinsCardSaid : Prop := Claim7.holds Tryd.pinned (.plain (OpenSpec.ofChange surrogateJoinsSpec)) surrogateJoinsCard

/-- THE SECOND FORM's CARD OF 'intarsialaw13.HopStays'. -/
def hopStaysUptoCard : Claim7 := { stood := { row := hopStaysUptoRow, standIns := [], harness := (true, "63f9580b7cb982402a86b2f48a0c6983d0624c6aafaaa4da32e78efb78815540"), looks := false }, kinds := [], alts := [], laidByText := true, laidKinds := [.data, .pinned], laidTests := true, laidLooks := .later }
def HopStaysUptoCardSaid : Prop := Claim7.holds Tryd.pinned (.plain (OpenSpec.upto hopStaysSpec)) hopStaysUptoCard

/-- THE SECOND FORM's CARD OF 'intarsialaw13.HopKeeps'. -/
def hopKeepsUptoCard : Claim7 := { stood := { row := hopKeepsUptoRow, standIns := [], harness := (true, "63f9580b7cb982402a86b2f48a0c6983d0624c6aafaaa4da32e78efb78815540"), looks := false }, kinds := [], alts := [], laidByText := true, laidKinds := [.data, .pinned], laidTests := true, laidLooks := .later }
def HopKeepsUptoCardSaid : Prop := Claim7.holds Tryd.pinned (.plain (OpenSpec.upto hopKeepsSpec)) hopKeepsUptoCard

/-- THE SECOND FORM's CARD OF 'intarsialaw12.SurrogateReads'. -/
def surrogateReadsUptoCard : Claim7 := { stood := { row := surrogateReadsUptoRow, standIns := [], harness := (true, "63f9580b7cb982402a86b2f48a0c6983d0624c6aafaaa4da32e78efb78815540"), looks := false }, kinds := [], alts := [], laidByText := true, laidKinds := [.data, .pinned], laidTests := true, laidLooks := .later }
def SurrogateReadsUptoCardSaid : Prop := Claim7.holds Tryd.pinned (.plain (OpenSpec.upto surrogateReadsSpec)) surrogateReadsUptoCard

/-- THE SECOND FORM's CARD OF 'intarsialaw12.SurrogateBack'. -/
def surrogateBackUptoCard : Claim7 := { stood := { row := surrogateBackUptoRow, standIns := [], harness := (true, "63f9580b7cb982402a86b2f48a0c6983d0624c6aafaaa4da32e78efb78815540"), looks := false }, kinds := [], alts := [], laidByText := true, laidKinds := [.data, .pinned], laidTests := true, laidLooks := .later }
def SurrogateBackUptoCardSaid : Prop := Claim7.holds Tryd.pinned (.plain (OpenSpec.upto surrogateBackSpec)) surrogateBackUptoCard

/-- THE SECOND FORM's CARD OF 'intarsialaw12.SurrogateJoins'. -/
def surrogateJoinsUptoCard : Claim7 := { stood := { row := surrogateJoinsUptoRow, standIns := [], harness := (true, "63f9580b7cb982402a86b2f48a0c6983d0624c6aafaaa4da32e78efb78815540"), looks := false }, kinds := [], alts := [], laidByText := true, laidKinds := [.data, .pinned], laidTests := true, laidLooks := .later }
def SurrogateJoinsUptoCardSaid : Prop := Claim7.holds Tryd.pinned (.plain (OpenSpec.upto surrogateJoinsSpec)) surrogateJoinsUptoCard
end Rows
end Go.Proofs.YtcfihoniocamaaaDoor
