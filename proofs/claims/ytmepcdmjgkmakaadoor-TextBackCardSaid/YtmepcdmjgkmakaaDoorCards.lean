/-
  DERIVED. GIVEN WITH THE SEED: THE CARDS: each row of YtmepcdmjgkmakaaDoorRows.lean that lists a variable, with what it lists TIED to the program's text (the seventh form; the later family's looks); each row that meets fmt, with fmt's text TOLD by the authors' own Lean function (tested against real Go, not proved from fmt's source: count such statements apart). THE CARD IS WHAT COUNTS. Prove the row's statement (the work); the ties are given (YtmepcdmjgkmakaaDoorTie.lean); close each card by the builder's one call (the guide's Derived/Test/ToyasCard.lean, 'card_holds'). Laid BY PROGRAM, IN A SANDBOX (cutbox-door.mjs). By AI agents, Wed Nov 11 2026. No macro, syntax, notation, axiom, sorry.
-/
import Derived.Test.YtmepcdmjgkmakaaDoorRows
import GoSem.ClaimSeven
namespace Go.Proofs.YtmepcdmjgkmakaaDoor
namespace Rows

/-- THE TIED CARD OF 'intarsialaw03.TextBack'. -/
def textBackCard : Claim7 := { stood := { row := textBackRow, standIns := [], harness := (true, "dba4be4a34041ff0ed7041f1608c92ae19f00c762fd49ad199cf30b719de616d"), looks := true }, kinds := [], alts := [], laidByText := true, laidKinds := [.data, .pinned], laidTests := true, laidLooks := .later }
def TextBackCardSaid : Prop := Claim7.holds Tryd.pinned (.plain (OpenSpec.ofChange textBackSpec)) textBackCard

/-- THE SECOND FORM's CARD OF 'intarsialaw03.TextBack'. -/
def textBackUptoCard : Claim7 := { stood := { row := textBackUptoRow, standIns := [], harness := (true, "dba4be4a34041ff0ed7041f1608c92ae19f00c762fd49ad199cf30b719de616d"), looks := true }, kinds := [], alts := [], laidByText := true, laidKinds := [.data, .pinned], laidTests := true, laidLooks := .later }
def TextBackUptoCardSaid : Prop := Claim7.holds Tryd.pinned (.plain (OpenSpec.upto textBackSpec)) textBackUptoCard
end Rows
end Go.Proofs.YtmepcdmjgkmakaaDoor
