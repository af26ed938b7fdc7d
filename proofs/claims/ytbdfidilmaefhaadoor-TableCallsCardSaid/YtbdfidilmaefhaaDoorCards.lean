/-
  DERIVED. GIVEN WITH THE SEED: THE CARDS: each row of YtbdfidilmaefhaaDoorRows.lean that lists a variable, with what it lists TIED to the program's text (the seventh form; the later family's looks); each row that meets fmt, with fmt's text TOLD by the authors' own Lean function (tested against real Go, not proved from fmt's source: count such statements apart). THE CARD IS WHAT COUNTS. Prove the row's statement (the work); the ties are given (YtbdfidilmaefhaaDoorTie.lean); close each card by the builder's one call (the guide's Derived/Test/ToyasCard.lean, 'card_holds'). Laid BY PROGRAM, IN A SANDBOX (cutbox-door.mjs). By AI agents, Wed Nov 11 2026. No macro, syntax, notation, axiom, sorry.
-/
import Derived.Test.YtbdfidilmaefhaaDoorRows
import GoSem.ClaimSeven
namespace Go.Proofs.YtbdfidilmaefhaaDoor
namespace Rows

/-- THE TIED CARD OF 'intarsialaw04.TableGrows'. -/
def tableGrowsCard : Claim7 := { stood := { row := tableGrowsRow, standIns := [], harness := (true, "84fbca88130b97024500468c2f531adda06160db9fc493e70064a791ae6ea5f1"), looks := false }, kinds := [], alts := [], laidByText := true, laidKinds := [.data, .pinned], laidTests := true, laidLooks := .later }
def TableGrowsCardSaid : Prop := Claim7.holds Tryd.pinned (.plain (OpenSpec.ofChange tableGrowsSpec)) tableGrowsCard

/-- THE TIED CARD OF 'intarsialaw04.TableCases'. -/
def tableCasesCard : Claim7 := { stood := { row := tableCasesRow, standIns := [], harness := (true, "84fbca88130b97024500468c2f531adda06160db9fc493e70064a791ae6ea5f1"), looks := false }, kinds := [], alts := [], laidByText := true, laidKinds := [.data, .pinned], laidTests := true, laidLooks := .later }
def TableCasesCardSaid : Prop := Claim7.holds Tryd.pinned (.plain (OpenSpec.ofChange tableCasesSpec)) tableCasesCard

/-- THE TIED CARD OF 'intarsialaw04.TableCalls'. -/
def tableCallsCard : Claim7 := { stood := { row := tableCallsRow, standIns := [], harness := (true, "84fbca88130b97024500468c2f531adda06160db9fc493e70064a791ae6ea5f1"), looks := false }, kinds := [], alts := [], laidByText := true, laidKinds := [.data, .pinned], laidTests := true, laidLooks := .later }
def TableCallsCardSaid : Prop := Claim7.holds Tryd.pinned (.plain (OpenSpec.ofChange tableCallsSpec)) tableCallsCard

/-- THE TIED CARD OF 'intarsialaw04.TableSets'. -/
def tableSetsCard : Claim7 := { stood := { row := tableSetsRow, standIns := [], harness := (true, "84fbca88130b97024500468c2f531adda06160db9fc493e70064a791ae6ea5f1"), looks := false }, kinds := [], alts := [], laidByText := true, laidKinds := [.data, .pinned], laidTests := true, laidLooks := .later }
def TableSetsCardSaid : Prop := Claim7.holds Tryd.pinned (.plain (OpenSpec.ofChange tableSetsSpec)) tableSetsCard

/-- THE SECOND FORM's CARD OF 'intarsialaw04.TableGrows'. -/
def tableGrowsUptoCard : Claim7 := { stood := { row := tableGrowsUptoRow, standIns := [], harness := (true, "84fbca88130b97024500468c2f531adda06160db9fc493e70064a791ae6ea5f1"), looks := false }, kinds := [], alts := [], laidByText := true, laidKinds := [.data, .pinned], laidTests := true, laidLooks := .later }
def TableGrowsUptoCardSaid : Prop := Claim7.holds Tryd.pinned (.plain (OpenSpec.upto tableGrowsSpec)) tableGrowsUptoCard

/-- THE SECOND FORM's CARD OF 'intarsialaw04.TableCases'. -/
def tableCasesUptoCard : Claim7 := { stood := { row := tableCasesUptoRow, standIns := [], harness := (true, "84fbca88130b97024500468c2f531adda06160db9fc493e70064a791ae6ea5f1"), looks := false }, kinds := [], alts := [], laidByText := true, laidKinds := [.data, .pinned], laidTests := true, laidLooks := .later }
def TableCasesUptoCardSaid : Prop := Claim7.holds Tryd.pinned (.plain (OpenSpec.upto tableCasesSpec)) tableCasesUptoCard

/-- THE SECOND FORM's CARD OF 'intarsialaw04.TableCalls'. -/
def tableCallsUptoCard : Claim7 := { stood := { row := tableCallsUptoRow, standIns := [], harness := (true, "84fbca88130b97024500468c2f531adda06160db9fc493e70064a791ae6ea5f1"), looks := false }, kinds := [], alts := [], laidByText := true, laidKinds := [.data, .pinned], laidTests := true, laidLooks := .later }
def TableCallsUptoCardSaid : Prop := Claim7.holds Tryd.pinned (.plain (OpenSpec.upto tableCallsSpec)) tableCallsUptoCard

/-- THE SECOND FORM's CARD OF 'intarsialaw04.TableSets'. -/
def tableSetsUptoCard : Claim7 := { stood := { row := tableSetsUptoRow, standIns := [], harness := (true, "84fbca88130b97024500468c2f531adda06160db9fc493e70064a791ae6ea5f1"), looks := false }, kinds := [], alts := [], laidByText := true, laidKinds := [.data, .pinned], laidTests := true, laidLooks := .later }
def TableSetsUptoCardSaid : Prop := Claim7.holds Tryd.pinned (.plain (OpenSpec.upto tableSetsSpec)) tableSetsUptoCard
end Rows
end Go.Proofs.YtbdfidilmaefhaaDoor
