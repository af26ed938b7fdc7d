/-
  DERIVED. GIVEN WITH THE SEED: THE CARDS: each row of YtigohbjbmipccaaDoorRows.lean that lists a variable, with what it lists TIED to the program's text (the seventh form; the later family's looks); each row that meets fmt, with fmt's text TOLD by the authors' own Lean function (tested against real Go, not proved from fmt's source: count such statements apart). THE CARD IS WHAT COUNTS. Prove the row's statement (the work); the ties are given (YtigohbjbmipccaaDoorTie.lean); close each card by the builder's one call (the guide's Derived/Test/ToyasCard.lean, 'card_holds'). Laid BY PROGRAM, IN A SANDBOX (cutbox-door.mjs). By AI agents, Wed Nov 11 2026. No macro, syntax, notation, axiom, sorry.
-/
import Derived.Test.YtigohbjbmipccaaDoorRows
import GoSem.ClaimSeven
namespace Go.Proofs.YtigohbjbmipccaaDoor
namespace Rows

/-- THE TIED CARD OF 'intarsialaw03.TextSplits'. -/
def textSplitsCard : Claim7 := { stood := { row := textSplitsRow, standIns := [], harness := (true, "b4f11a9622f0d8cb25adf35275b21210963f1fba179eca4afa21dd7c450aee1f"), looks := true }, kinds := [], alts := [], laidByText := true, laidKinds := [.data, .pinned], laidTests := true, laidLooks := .later }
def TextSplitsCardSaid : Prop := Claim7.holds Tryd.pinned (.plain (OpenSpec.ofChange textSplitsSpec)) textSplitsCard

/-- THE TIED CARD OF 'intarsialaw03.TextJoins'. -/
def textJoinsCard : Claim7 := { stood := { row := textJoinsRow, standIns := [], harness := (true, "b4f11a9622f0d8cb25adf35275b21210963f1fba179eca4afa21dd7c450aee1f"), looks := true }, kinds := [], alts := [], laidByText := true, laidKinds := [.data, .pinned], laidTests := true, laidLooks := .later }
def TextJoinsCardSaid : Prop := Claim7.holds Tryd.pinned (.plain (OpenSpec.ofChange textJoinsSpec)) textJoinsCard

/-- THE TIED CARD OF 'intarsialaw03.TextTrims'. -/
def textTrimsCard : Claim7 := { stood := { row := textTrimsRow, standIns := [], harness := (true, "b4f11a9622f0d8cb25adf35275b21210963f1fba179eca4afa21dd7c450aee1f"), looks := true }, kinds := [], alts := [], laidByText := true, laidKinds := [.data, .pinned], laidTests := true, laidLooks := .later }
def TextTrimsCardSaid : Prop := Claim7.holds Tryd.pinned (.plain (OpenSpec.ofChange textTrimsSpec)) textTrimsCard

/-- THE TIED CARD OF 'intarsialaw03.TextWords'. -/
def textWordsCard : Claim7 := { stood := { row := textWordsRow, standIns := [], harness := (true, "b4f11a9622f0d8cb25adf35275b21210963f1fba179eca4afa21dd7c450aee1f"), looks := true }, kinds := [], alts := [], laidByText := true, laidKinds := [.data, .pinned], laidTests := true, laidLooks := .later }
def TextWordsCardSaid : Prop := Claim7.holds Tryd.pinned (.plain (OpenSpec.ofChange textWordsSpec)) textWordsCard

/-- THE TIED CARD OF 'intarsialaw03.TextSmall'. -/
def textSmallCard : Claim7 := { stood := { row := textSmallRow, standIns := [], harness := (true, "b4f11a9622f0d8cb25adf35275b21210963f1fba179eca4afa21dd7c450aee1f"), looks := true }, kinds := [], alts := [], laidByText := true, laidKinds := [.data, .pinned], laidTests := true, laidLooks := .later }
def TextSmallCardSaid : Prop := Claim7.holds Tryd.pinned (.plain (OpenSpec.ofChange textSmallSpec)) textSmallCard

/-- THE TIED CARD OF 'intarsialaw03.TextBack'. -/
def textBackCard : Claim7 := { stood := { row := textBackRow, standIns := [], harness := (true, "b4f11a9622f0d8cb25adf35275b21210963f1fba179eca4afa21dd7c450aee1f"), looks := true }, kinds := [], alts := [], laidByText := true, laidKinds := [.data, .pinned], laidTests := true, laidLooks := .later }
def TextBackCardSaid : Prop := Claim7.holds Tryd.pinned (.plain (OpenSpec.ofChange textBackSpec)) textBackCard

/-- THE SECOND FORM's CARD OF 'intarsialaw03.TextSplits'. -/
def textSplitsUptoCard : Claim7 := { stood := { row := textSplitsUptoRow, standIns := [], harness := (true, "b4f11a9622f0d8cb25adf35275b21210963f1fba179eca4afa21dd7c450aee1f"), looks := true }, kinds := [], alts := [], laidByText := true, laidKinds := [.data, .pinned], laidTests := true, laidLooks := .later }
def TextSplitsUptoCardSaid : Prop := Claim7.holds Tryd.pinned (.plain (OpenSpec.upto textSplitsSpec)) textSplitsUptoCard

/-- THE SECOND FORM's CARD OF 'intarsialaw03.TextJoins'. -/
def textJoinsUptoCard : Claim7 := { stood := { row := textJoinsUptoRow, standIns := [], harness := (true, "b4f11a9622f0d8cb25adf35275b21210963f1fba179eca4afa21dd7c450aee1f"), looks := true }, kinds := [], alts := [], laidByText := true, laidKinds := [.data, .pinned], laidTests := true, laidLooks := .later }
def TextJoinsUptoCardSaid : Prop := Claim7.holds Tryd.pinned (.plain (OpenSpec.upto textJoinsSpec)) textJoinsUptoCard

/-- THE SECOND FORM's CARD OF 'intarsialaw03.TextTrims'. -/
def textTrimsUptoCard : Claim7 := { stood := { row := textTrimsUptoRow, standIns := [], harness := (true, "b4f11a9622f0d8cb25adf35275b21210963f1fba179eca4afa21dd7c450aee1f"), looks := true }, kinds := [], alts := [], laidByText := true, laidKinds := [.data, .pinned], laidTests := true, laidLooks := .later }
def TextTrimsUptoCardSaid : Prop := Claim7.holds Tryd.pinned (.plain (OpenSpec.upto textTrimsSpec)) textTrimsUptoCard

/-- THE SECOND FORM's CARD OF 'intarsialaw03.TextWords'. -/
def textWordsUptoCard : Claim7 := { stood := { row := textWordsUptoRow, standIns := [], harness := (true, "b4f11a9622f0d8cb25adf35275b21210963f1fba179eca4afa21dd7c450aee1f"), looks := true }, kinds := [], alts := [], laidByText := true, laidKinds := [.data, .pinned], laidTests := true, laidLooks := .later }
def TextWordsUptoCardSaid : Prop := Claim7.holds Tryd.pinned (.plain (OpenSpec.upto textWordsSpec)) textWordsUptoCard

/-- THE SECOND FORM's CARD OF 'intarsialaw03.TextSmall'. -/
def textSmallUptoCard : Claim7 := { stood := { row := textSmallUptoRow, standIns := [], harness := (true, "b4f11a9622f0d8cb25adf35275b21210963f1fba179eca4afa21dd7c450aee1f"), looks := true }, kinds := [], alts := [], laidByText := true, laidKinds := [.data, .pinned], laidTests := true, laidLooks := .later }
def TextSmallUptoCardSaid : Prop := Claim7.holds Tryd.pinned (.plain (OpenSpec.upto textSmallSpec)) textSmallUptoCard

/-- THE SECOND FORM's CARD OF 'intarsialaw03.TextBack'. -/
def textBackUptoCard : Claim7 := { stood := { row := textBackUptoRow, standIns := [], harness := (true, "b4f11a9622f0d8cb25adf35275b21210963f1fba179eca4afa21dd7c450aee1f"), looks := true }, kinds := [], alts := [], laidByText := true, laidKinds := [.data, .pinned], laidTests := true, laidLooks := .later }
def TextBackUptoCardSaid : Prop := Claim7.holds Tryd.pinned (.plain (OpenSpec.upto textBackSpec)) textBackUptoCard
end Rows
end Go.Proofs.YtigohbjbmipccaaDoor
