/-
  DERIVED. GIVEN WITH THE SEED: THE CARDS: each row of YtgjemgilanhdiaaDoorRows.lean that lists a variable, with what it lists TIED to the program's text (the seventh form; the later family's looks); each row that meets fmt, with fmt's text TOLD by the authors' own Lean function (tested against real Go, not proved from fmt's source: count such statements apart). THE CARD IS WHAT COUNTS. Prove the row's statement (the work); the ties are given (YtgjemgilanhdiaaDoorTie.lean); close each card by the builder's one call (the guide's Derived/Test/ToyasCard.lean, 'card_holds'). Laid BY PROGRAM, IN A SANDBOX (cutbox-door.mjs). By AI agents, Wed Nov 11 2026. No macro, syntax, notation, axiom, sorry.
-/
import Derived.Test.YtgjemgilanhdiaaDoorRows
import GoSem.ClaimSeven
namespace Go.Proofs.YtgjemgilanhdiaaDoor
namespace Rows

/-- THE TIED CARD OF 'intarsialaw21.RouteOrder'. -/
def routeOrderCard : Claim7 := { stood := { row := routeOrderRow, standIns := [], harness := (true, "d54b445fd99d685d08906b9944910327b84cf8847bcdf0a4eb74120577cf989f"), looks := false }, kinds := [], alts := [], laidByText := true, laidKinds := [.data, .data, .data], laidTests := true, laidLooks := .later }
def RouteOrderCardSaid : Prop := Claim7.holds Tryd.pinned (.plain (OpenSpec.ofChange routeOrderSpec)) routeOrderCard

/-- THE TIED CARD OF 'intarsialaw21.RouteBest'. -/
def routeBestCard : Claim7 := { stood := { row := routeBestRow, standIns := [], harness := (true, "d54b445fd99d685d08906b9944910327b84cf8847bcdf0a4eb74120577cf989f"), looks := false }, kinds := [], alts := [], laidByText := true, laidKinds := [.data, .data, .data], laidTests := true, laidLooks := .later }
def RouteBestCardSaid : Prop := Claim7.holds Tryd.pinned (.plain (OpenSpec.ofChange routeBestSpec)) routeBestCard

/-- THE SECOND FORM's CARD OF 'intarsialaw21.RouteOrder'. -/
def routeOrderUptoCard : Claim7 := { stood := { row := routeOrderUptoRow, standIns := [], harness := (true, "d54b445fd99d685d08906b9944910327b84cf8847bcdf0a4eb74120577cf989f"), looks := false }, kinds := [], alts := [], laidByText := true, laidKinds := [.data, .data, .data], laidTests := true, laidLooks := .later }
def RouteOrderUptoCardSaid : Prop := Claim7.holds Tryd.pinned (.plain (OpenSpec.upto routeOrderSpec)) routeOrderUptoCard

/-- THE SECOND FORM's CARD OF 'intarsialaw21.RouteBest'. -/
def routeBestUptoCard : Claim7 := { stood := { row := routeBestUptoRow, standIns := [], harness := (true, "d54b445fd99d685d08906b9944910327b84cf8847bcdf0a4eb74120577cf989f"), looks := false }, kinds := [], alts := [], laidByText := true, laidKinds := [.data, .data, .data], laidTests := true, laidLooks := .later }
def RouteBestUptoCardSaid : Prop := Claim7.holds Tryd.pinned (.plain (OpenSpec.upto routeBestSpec)) routeBestUptoCard
end Rows
end Go.Proofs.YtgjemgilanhdiaaDoor
