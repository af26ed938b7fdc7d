/-
  DERIVED. GIVEN WITH THE SEED: THE CARDS: each row of YtmepcdmjgkmakaaGreatDoorRows.lean that lists a variable, with what it lists TIED to the program's text (the seventh form; the later family's looks); each row that meets fmt, with fmt's text TOLD by the authors' own Lean function (tested against real Go, not proved from fmt's source: count such statements apart). THE CARD IS WHAT COUNTS. Prove the row's statement (the work); the ties are given (YtmepcdmjgkmakaaGreatDoorTie.lean); close each card by the builder's one call (the guide's Derived/Test/ToyasCard.lean, 'card_holds'). Laid BY PROGRAM, IN A SANDBOX (cutbox-door.mjs). By AI agents, Wed Nov 11 2026. No macro, syntax, notation, axiom, sorry.
-/
import Derived.Test.YtmepcdmjgkmakaaGreatDoorRows
import GoSem.ClaimSeven
namespace Go.Proofs.YtmepcdmjgkmakaaGreatDoor
namespace Rows

/-- THE TIED CARD OF 'intarsialaw03.TextQuotes'. -/
def textQuotesCard : Claim7 := { stood := { row := textQuotesRow, standIns := [], harness := (true, "63cf82e80d9bc58dde7d8f433a6190305e8ae2420434302cc0fa13d4a2227f71"), looks := true }, kinds := [], alts := [], laidByText := true, laidKinds := [.data, .pinned], laidTests := true, laidLooks := .later }
def TextQuotesCardSaid : Prop := Claim7.holds Tryz.pinned (.plain (OpenSpec.ofChange textQuotesSpec)) textQuotesCard

/-- THE SECOND FORM's CARD OF 'intarsialaw03.TextQuotes'. -/
def textQuotesUptoCard : Claim7 := { stood := { row := textQuotesUptoRow, standIns := [], harness := (true, "63cf82e80d9bc58dde7d8f433a6190305e8ae2420434302cc0fa13d4a2227f71"), looks := true }, kinds := [], alts := [], laidByText := true, laidKinds := [.data, .pinned], laidTests := true, laidLooks := .later }
def TextQuotesUptoCardSaid : Prop := Claim7.holds Tryz.pinned (.plain (OpenSpec.upto textQuotesSpec)) textQuotesUptoCard
end Rows
end Go.Proofs.YtmepcdmjgkmakaaGreatDoor
