/-
  DERIVED. GIVEN WITH THE SEED: THE CARDS: each row of YtcjekdoooekmlaaDoorRows.lean that lists a variable, with what it lists TIED to the program's text (the seventh form; the later family's looks); each row that meets fmt, with fmt's text TOLD by the authors' own Lean function (tested against real Go, not proved from fmt's source: count such statements apart). THE CARD IS WHAT COUNTS. Prove the row's statement (the work); the ties are given (YtcjekdoooekmlaaDoorTie.lean); close each card by the builder's one call (the guide's Derived/Test/ToyasCard.lean, 'card_holds'). Laid BY PROGRAM, IN A SANDBOX (cutbox-door.mjs). By AI agents, Wed Nov 11 2026. No macro, syntax, notation, axiom, sorry.
-/
import Derived.Test.YtcjekdoooekmlaaDoorRows
import GoSem.ClaimSeven
namespace Go.Proofs.YtcjekdoooekmlaaDoor
namespace Rows

/-- THE TIED CARD OF 'intarsialaw05.UriResolves'. -/
def uriResolvesCard : Claim7 := { stood := { row := uriResolvesRow, standIns := [], harness := (true, "66402c1b2372923d82a9b822bf70d6e05628edf8367f56bbd98a7650ab74bba3"), looks := false }, kinds := [], alts := [], laidByText := true, laidKinds := [.data, .data, .data], laidTests := true, laidLooks := .later }
def UriResolvesCardSaid : Prop := Claim7.holds Tryd.pinned (.plain (OpenSpec.ofChange uriResolvesSpec)) uriResolvesCard

/-- THE TIED CARD OF 'intarsialaw05.UriQueries'. -/
def uriQueriesCard : Claim7 := { stood := { row := uriQueriesRow, standIns := [], harness := (true, "66402c1b2372923d82a9b822bf70d6e05628edf8367f56bbd98a7650ab74bba3"), looks := false }, kinds := [], alts := [], laidByText := true, laidKinds := [.data, .data, .data], laidTests := true, laidLooks := .later }
def UriQueriesCardSaid : Prop := Claim7.holds Tryd.pinned (.plain (OpenSpec.ofChange uriQueriesSpec)) uriQueriesCard

/-- THE TIED CARD OF 'intarsialaw05.UriStays'. -/
def uriStaysCard : Claim7 := { stood := { row := uriStaysRow, standIns := [], harness := (true, "66402c1b2372923d82a9b822bf70d6e05628edf8367f56bbd98a7650ab74bba3"), looks := false }, kinds := [], alts := [], laidByText := true, laidKinds := [.data, .data, .data, .data, .pinned], laidTests := true, laidLooks := .later }
def UriStaysCardSaid : Prop := Claim7.holds Tryd.pinned (.plain (OpenSpec.ofChange uriStaysSpec)) uriStaysCard

/-- THE SECOND FORM's CARD OF 'intarsialaw05.UriResolves'. -/
def uriResolvesUptoCard : Claim7 := { stood := { row := uriResolvesUptoRow, standIns := [], harness := (true, "66402c1b2372923d82a9b822bf70d6e05628edf8367f56bbd98a7650ab74bba3"), looks := false }, kinds := [], alts := [], laidByText := true, laidKinds := [.data, .data, .data], laidTests := true, laidLooks := .later }
def UriResolvesUptoCardSaid : Prop := Claim7.holds Tryd.pinned (.plain (OpenSpec.upto uriResolvesSpec)) uriResolvesUptoCard

/-- THE SECOND FORM's CARD OF 'intarsialaw05.UriQueries'. -/
def uriQueriesUptoCard : Claim7 := { stood := { row := uriQueriesUptoRow, standIns := [], harness := (true, "66402c1b2372923d82a9b822bf70d6e05628edf8367f56bbd98a7650ab74bba3"), looks := false }, kinds := [], alts := [], laidByText := true, laidKinds := [.data, .data, .data], laidTests := true, laidLooks := .later }
def UriQueriesUptoCardSaid : Prop := Claim7.holds Tryd.pinned (.plain (OpenSpec.upto uriQueriesSpec)) uriQueriesUptoCard

/-- THE SECOND FORM's CARD OF 'intarsialaw05.UriStays'. -/
def uriStaysUptoCard : Claim7 := { stood := { row := uriStaysUptoRow, standIns := [], harness := (true, "66402c1b2372923d82a9b822bf70d6e05628edf8367f56bbd98a7650ab74bba3"), looks := false }, kinds := [], alts := [], laidByText := true, laidKinds := [.data, .data, .data, .data, .pinned], laidTests := true, laidLooks := .later }
def UriStaysUptoCardSaid : Prop := Claim7.holds Tryd.pinned (.plain (OpenSpec.upto uriStaysSpec)) uriStaysUptoCard
end Rows
end Go.Proofs.YtcjekdoooekmlaaDoor
