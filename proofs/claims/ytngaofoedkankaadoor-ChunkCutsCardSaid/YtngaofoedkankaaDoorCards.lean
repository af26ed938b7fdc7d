/-
  DERIVED. GIVEN WITH THE SEED: THE CARDS: each row of YtngaofoedkankaaDoorRows.lean that lists a variable, with what it lists TIED to the program's text (the seventh form; the later family's looks); each row that meets fmt, with fmt's text TOLD by the authors' own Lean function (tested against real Go, not proved from fmt's source: count such statements apart). THE CARD IS WHAT COUNTS. Prove the row's statement (the work); the ties are given (YtngaofoedkankaaDoorTie.lean); close each card by the builder's one call (the guide's Derived/Test/ToyasCard.lean, 'card_holds'). Laid BY PROGRAM, IN A SANDBOX (cutbox-door.mjs). By AI agents, Wed Nov 11 2026. No macro, syntax, notation, axiom, sorry.
-/
import Derived.Test.YtngaofoedkankaaDoorRows
import GoSem.ClaimSeven
namespace Go.Proofs.YtngaofoedkankaaDoor
namespace Rows

/-- THE TIED CARD OF 'intarsialaw08.ChunkCuts'. -/
def chunkCutsCard : Claim7 := { stood := { row := chunkCutsRow, standIns := [], harness := (true, "17d8d6433952b57c03189e55fbba9f61ed665af0ddde18210baf2ff90daec106"), looks := false }, kinds := [], alts := [], laidByText := true, laidKinds := [.data, .pinned], laidTests := true, laidLooks := .later }
def ChunkCutsCardSaid : Prop := Claim7.holds Tryd.pinned (.plain (OpenSpec.ofChange chunkCutsSpec)) chunkCutsCard

/-- THE TIED CARD OF 'intarsialaw08.ChunkLong'. -/
def chunkLongCard : Claim7 := { stood := { row := chunkLongRow, standIns := [], harness := (true, "17d8d6433952b57c03189e55fbba9f61ed665af0ddde18210baf2ff90daec106"), looks := false }, kinds := [], alts := [], laidByText := true, laidKinds := [.data, .data, .data, .data, .pinned], laidTests := true, laidLooks := .later }
def ChunkLongCardSaid : Prop := Claim7.holds Tryd.pinned (.plain (OpenSpec.ofChange chunkLongSpec)) chunkLongCard

/-- THE TIED CARD OF 'intarsialaw08.ChunkBack'. -/
def chunkBackCard : Claim7 := { stood := { row := chunkBackRow, standIns := [], harness := (true, "17d8d6433952b57c03189e55fbba9f61ed665af0ddde18210baf2ff90daec106"), looks := false }, kinds := [], alts := [], laidByText := true, laidKinds := [.data, .data, .data, .data, .pinned], laidTests := true, laidLooks := .later }
def ChunkBackCardSaid : Prop := Claim7.holds Tryd.pinned (.plain (OpenSpec.ofChange chunkBackSpec)) chunkBackCard

/-- THE TIED CARD OF 'intarsialaw08.ChunkSame'. -/
def chunkSameCard : Claim7 := { stood := { row := chunkSameRow, standIns := [], harness := (true, "17d8d6433952b57c03189e55fbba9f61ed665af0ddde18210baf2ff90daec106"), looks := false }, kinds := [], alts := [], laidByText := true, laidKinds := [.data, .data, .data, .data, .pinned], laidTests := true, laidLooks := .later }
def ChunkSameCardSaid : Prop := Claim7.holds Tryd.pinned (.plain (OpenSpec.ofChange chunkSameSpec)) chunkSameCard

/-- THE TIED CARD OF 'intarsialaw21.RouteOrder'. -/
def routeOrderCard : Claim7 := { stood := { row := routeOrderRow, standIns := [], harness := (true, "17d8d6433952b57c03189e55fbba9f61ed665af0ddde18210baf2ff90daec106"), looks := false }, kinds := [], alts := [], laidByText := true, laidKinds := [.data, .data, .data], laidTests := true, laidLooks := .later }
def RouteOrderCardSaid : Prop := Claim7.holds Tryd.pinned (.plain (OpenSpec.ofChange routeOrderSpec)) routeOrderCard

/-- THE TIED CARD OF 'intarsialaw21.RouteBest'. -/
def routeBestCard : Claim7 := { stood := { row := routeBestRow, standIns := [], harness := (true, "17d8d6433952b57c03189e55fbba9f61ed665af0ddde18210baf2ff90daec106"), looks := false }, kinds := [], alts := [], laidByText := true, laidKinds := [.data, .data, .data], laidTests := true, laidLooks := .later }
def RouteBestCardSaid : Prop := Claim7.holds Tryd.pinned (.plain (OpenSpec.ofChange routeBestSpec)) routeBestCard

/-- THE SECOND FORM's CARD OF 'intarsialaw08.ChunkCuts'. -/
def chunkCutsUptoCard : Claim7 := { stood := { row := chunkCutsUptoRow, standIns := [], harness := (true, "17d8d6433952b57c03189e55fbba9f61ed665af0ddde18210baf2ff90daec106"), looks := false }, kinds := [], alts := [], laidByText := true, laidKinds := [.data, .pinned], laidTests := true, laidLooks := .later }
def ChunkCutsUptoCardSaid : Prop := Claim7.holds Tryd.pinned (.plain (OpenSpec.upto chunkCutsSpec)) chunkCutsUptoCard

/-- THE SECOND FORM's CARD OF 'intarsialaw08.ChunkLong'. -/
def chunkLongUptoCard : Claim7 := { stood := { row := chunkLongUptoRow, standIns := [], harness := (true, "17d8d6433952b57c03189e55fbba9f61ed665af0ddde18210baf2ff90daec106"), looks := false }, kinds := [], alts := [], laidByText := true, laidKinds := [.data, .data, .data, .data, .pinned], laidTests := true, laidLooks := .later }
def ChunkLongUptoCardSaid : Prop := Claim7.holds Tryd.pinned (.plain (OpenSpec.upto chunkLongSpec)) chunkLongUptoCard

/-- THE SECOND FORM's CARD OF 'intarsialaw08.ChunkBack'. -/
def chunkBackUptoCard : Claim7 := { stood := { row := chunkBackUptoRow, standIns := [], harness := (true, "17d8d6433952b57c03189e55fbba9f61ed665af0ddde18210baf2ff90daec106"), looks := false }, kinds := [], alts := [], laidByText := true, laidKinds := [.data, .data, .data, .data, .pinned], laidTests := true, laidLooks := .later }
def ChunkBackUptoCardSaid : Prop := Claim7.holds Tryd.pinned (.plain (OpenSpec.upto chunkBackSpec)) chunkBackUptoCard

/-- THE SECOND FORM's CARD OF 'intarsialaw08.ChunkSame'. -/
def chunkSameUptoCard : Claim7 := { stood := { row := chunkSameUptoRow, standIns := [], harness := (true, "17d8d6433952b57c03189e55fbba9f61ed665af0ddde18210baf2ff90daec106"), looks := false }, kinds := [], alts := [], laidByText := true, laidKinds := [.data, .data, .data, .data, .pinned], laidTests := true, laidLooks := .later }
def ChunkSameUptoCardSaid : Prop := Claim7.holds Tryd.pinned (.plain (OpenSpec.upto chunkSameSpec)) chunkSameUptoCard

/-- THE SECOND FORM's CARD OF 'intarsialaw21.RouteOrder'. -/
def routeOrderUptoCard : Claim7 := { stood := { row := routeOrderUptoRow, standIns := [], harness := (true, "17d8d6433952b57c03189e55fbba9f61ed665af0ddde18210baf2ff90daec106"), looks := false }, kinds := [], alts := [], laidByText := true, laidKinds := [.data, .data, .data], laidTests := true, laidLooks := .later }
def RouteOrderUptoCardSaid : Prop := Claim7.holds Tryd.pinned (.plain (OpenSpec.upto routeOrderSpec)) routeOrderUptoCard

/-- THE SECOND FORM's CARD OF 'intarsialaw21.RouteBest'. -/
def routeBestUptoCard : Claim7 := { stood := { row := routeBestUptoRow, standIns := [], harness := (true, "17d8d6433952b57c03189e55fbba9f61ed665af0ddde18210baf2ff90daec106"), looks := false }, kinds := [], alts := [], laidByText := true, laidKinds := [.data, .data, .data], laidTests := true, laidLooks := .later }
def RouteBestUptoCardSaid : Prop := Claim7.holds Tryd.pinned (.plain (OpenSpec.upto routeBestSpec)) routeBestUptoCard
end Rows
end Go.Proofs.YtngaofoedkankaaDoor
