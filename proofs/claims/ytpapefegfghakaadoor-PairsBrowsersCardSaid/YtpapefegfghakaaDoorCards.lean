/-
  DERIVED. GIVEN WITH THE SEED: THE CARDS: each row of YtpapefegfghakaaDoorRows.lean that lists a variable, with what it lists TIED to the program's text (the seventh form; the later family's looks); each row that meets fmt, with fmt's text TOLD by the authors' own Lean function (tested against real Go, not proved from fmt's source: count such statements apart). THE CARD IS WHAT COUNTS. Prove the row's statement (the work); the ties are given (YtpapefegfghakaaDoorTie.lean); close each card by the builder's one call (the guide's Derived/Test/ToyasCard.lean, 'card_holds'). Laid BY PROGRAM, IN A SANDBOX (cutbox-door.mjs). By AI agents, Wed Nov 11 2026. No macro, syntax, notation, axiom, sorry.
-/
import Derived.Test.YtpapefegfghakaaDoorRows
import GoSem.ClaimSeven
namespace Go.Proofs.YtpapefegfghakaaDoor
namespace Rows

/-- THE TIED CARD OF 'intarsialaw11.PairsBack'. -/
def pairsBackCard : Claim7 := { stood := { row := pairsBackRow, standIns := [], harness := (true, "473b8f3dfe18844a4764c02c6bc514cd33aa3fb09e20da68f37a474a85e4fdf2"), looks := false }, kinds := [], alts := [], laidByText := true, laidKinds := [.data, .pinned], laidTests := true, laidLooks := .later }
def PairsBackCardSaid : Prop := Claim7.holds Tryd.pinned (.plain (OpenSpec.ofChange pairsBackSpec)) pairsBackCard

/-- THE TIED CARD OF 'intarsialaw11.PairsCodes'. -/
def pairsCodesCard : Claim7 := { stood := { row := pairsCodesRow, standIns := [], harness := (true, "473b8f3dfe18844a4764c02c6bc514cd33aa3fb09e20da68f37a474a85e4fdf2"), looks := false }, kinds := [], alts := [], laidByText := true, laidKinds := [.data, .pinned], laidTests := true, laidLooks := .later }
def PairsCodesCardSaid : Prop := Claim7.holds Tryd.pinned (.plain (OpenSpec.ofChange pairsCodesSpec)) pairsCodesCard

/-- THE TIED CARD OF 'intarsialaw11.PairsBrowsers'. -/
def pairsBrowsersCard : Claim7 := { stood := { row := pairsBrowsersRow, standIns := [], harness := (true, "473b8f3dfe18844a4764c02c6bc514cd33aa3fb09e20da68f37a474a85e4fdf2"), looks := false }, kinds := [], alts := [], laidByText := true, laidKinds := [.data, .pinned], laidTests := true, laidLooks := .later }
def PairsBrowsersCardSaid : Prop := Claim7.holds Tryd.pinned (.plain (OpenSpec.ofChange pairsBrowsersSpec)) pairsBrowsersCard

/-- THE TIED CARD OF 'intarsialaw11.PairsReads'. -/
def pairsReadsCard : Claim7 := { stood := { row := pairsReadsRow, standIns := [], harness := (true, "473b8f3dfe18844a4764c02c6bc514cd33aa3fb09e20da68f37a474a85e4fdf2"), looks := false }, kinds := [], alts := [], laidByText := true, laidKinds := [.data, .pinned], laidTests := true, laidLooks := .later }
def PairsReadsCardSaid : Prop := Claim7.holds Tryd.pinned (.plain (OpenSpec.ofChange pairsReadsSpec)) pairsReadsCard

/-- THE TIED CARD OF 'intarsialaw11.PairsJoins'. -/
def pairsJoinsCard : Claim7 := { stood := { row := pairsJoinsRow, standIns := [], harness := (true, "473b8f3dfe18844a4764c02c6bc514cd33aa3fb09e20da68f37a474a85e4fdf2"), looks := false }, kinds := [], alts := [], laidByText := true, laidKinds := [.data, .pinned], laidTests := true, laidLooks := .later }
def PairsJoinsCardSaid : Prop := Claim7.holds Tryd.pinned (.plain (OpenSpec.ofChange pairsJoinsSpec)) pairsJoinsCard

/-- THE SECOND FORM's CARD OF 'intarsialaw11.PairsBack'. -/
def pairsBackUptoCard : Claim7 := { stood := { row := pairsBackUptoRow, standIns := [], harness := (true, "473b8f3dfe18844a4764c02c6bc514cd33aa3fb09e20da68f37a474a85e4fdf2"), looks := false }, kinds := [], alts := [], laidByText := true, laidKinds := [.data, .pinned], laidTests := true, laidLooks := .later }
def PairsBackUptoCardSaid : Prop := Claim7.holds Tryd.pinned (.plain (OpenSpec.upto pairsBackSpec)) pairsBackUptoCard

/-- THE SECOND FORM's CARD OF 'intarsialaw11.PairsCodes'. -/
def pairsCodesUptoCard : Claim7 := { stood := { row := pairsCodesUptoRow, standIns := [], harness := (true, "473b8f3dfe18844a4764c02c6bc514cd33aa3fb09e20da68f37a474a85e4fdf2"), looks := false }, kinds := [], alts := [], laidByText := true, laidKinds := [.data, .pinned], laidTests := true, laidLooks := .later }
def PairsCodesUptoCardSaid : Prop := Claim7.holds Tryd.pinned (.plain (OpenSpec.upto pairsCodesSpec)) pairsCodesUptoCard

/-- THE SECOND FORM's CARD OF 'intarsialaw11.PairsBrowsers'. -/
def pairsBrowsersUptoCard : Claim7 := { stood := { row := pairsBrowsersUptoRow, standIns := [], harness := (true, "473b8f3dfe18844a4764c02c6bc514cd33aa3fb09e20da68f37a474a85e4fdf2"), looks := false }, kinds := [], alts := [], laidByText := true, laidKinds := [.data, .pinned], laidTests := true, laidLooks := .later }
def PairsBrowsersUptoCardSaid : Prop := Claim7.holds Tryd.pinned (.plain (OpenSpec.upto pairsBrowsersSpec)) pairsBrowsersUptoCard

/-- THE SECOND FORM's CARD OF 'intarsialaw11.PairsReads'. -/
def pairsReadsUptoCard : Claim7 := { stood := { row := pairsReadsUptoRow, standIns := [], harness := (true, "473b8f3dfe18844a4764c02c6bc514cd33aa3fb09e20da68f37a474a85e4fdf2"), looks := false }, kinds := [], alts := [], laidByText := true, laidKinds := [.data, .pinned], laidTests := true, laidLooks := .later }
def PairsReadsUptoCardSaid : Prop := Claim7.holds Tryd.pinned (.plain (OpenSpec.upto pairsReadsSpec)) pairsReadsUptoCard

/-- THE SECOND FORM's CARD OF 'intarsialaw11.PairsJoins'. -/
def pairsJoinsUptoCard : Claim7 := { stood := { row := pairsJoinsUptoRow, standIns := [], harness := (true, "473b8f3dfe18844a4764c02c6bc514cd33aa3fb09e20da68f37a474a85e4fdf2"), looks := false }, kinds := [], alts := [], laidByText := true, laidKinds := [.data, .pinned], laidTests := true, laidLooks := .later }
def PairsJoinsUptoCardSaid : Prop := Claim7.holds Tryd.pinned (.plain (OpenSpec.upto pairsJoinsSpec)) pairsJoinsUptoCard
end Rows
end Go.Proofs.YtpapefegfghakaaDoor
