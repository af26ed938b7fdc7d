/-
  DERIVED. GIVEN WITH THE SEED: THE CARDS: each row of YtgjemgilanhdiaaGreatDoorRows.lean that lists a variable, with what it lists TIED to the program's text (the seventh form; the later family's looks); each row that meets fmt, with fmt's text TOLD by the authors' own Lean function (tested against real Go, not proved from fmt's source: count such statements apart). THE CARD IS WHAT COUNTS. Prove the row's statement (the work); the ties are given (YtgjemgilanhdiaaGreatDoorTie.lean); close each card by the builder's one call (the guide's Derived/Test/ToyasCard.lean, 'card_holds'). Laid BY PROGRAM, IN A SANDBOX (cutbox-door.mjs). By AI agents, Wed Nov 11 2026. No macro, syntax, notation, axiom, sorry.
-/
import Derived.Test.YtgjemgilanhdiaaGreatDoorRows
import GoSem.ClaimSeven
namespace Go.Proofs.YtgjemgilanhdiaaGreatDoor
namespace Rows

/-- THE TIED CARD OF 'intarsialaw21.RouteFinds'. -/
def routeFindsCard : Claim7 := { stood := { row := routeFindsRow, standIns := [], harness := (true, "32ec2fdf4889bdfc74432129ec9ea07e4d7f8b20591c1e4acaa597f58d944a84"), looks := false }, kinds := [], alts := [], laidByText := true, laidKinds := [.data, .data, .data, .data, .pinned], laidTests := true, laidLooks := .later }
def RouteFindsCardSaid : Prop := Claim7.holds Tryz.pinned (.plain (OpenSpec.ofChange routeFindsSpec)) routeFindsCard

/-- THE TIED CARD OF 'intarsialaw21.RouteHosts'. -/
def routeHostsCard : Claim7 := { stood := { row := routeHostsRow, standIns := [], harness := (true, "32ec2fdf4889bdfc74432129ec9ea07e4d7f8b20591c1e4acaa597f58d944a84"), looks := false }, kinds := [], alts := [], laidByText := true, laidKinds := [.data, .data, .data, .data, .pinned], laidTests := true, laidLooks := .later }
def RouteHostsCardSaid : Prop := Claim7.holds Tryz.pinned (.plain (OpenSpec.ofChange routeHostsSpec)) routeHostsCard

/-- THE SECOND FORM's CARD OF 'intarsialaw21.RouteFinds'. -/
def routeFindsUptoCard : Claim7 := { stood := { row := routeFindsUptoRow, standIns := [], harness := (true, "32ec2fdf4889bdfc74432129ec9ea07e4d7f8b20591c1e4acaa597f58d944a84"), looks := false }, kinds := [], alts := [], laidByText := true, laidKinds := [.data, .data, .data, .data, .pinned], laidTests := true, laidLooks := .later }
def RouteFindsUptoCardSaid : Prop := Claim7.holds Tryz.pinned (.plain (OpenSpec.upto routeFindsSpec)) routeFindsUptoCard

/-- THE SECOND FORM's CARD OF 'intarsialaw21.RouteHosts'. -/
def routeHostsUptoCard : Claim7 := { stood := { row := routeHostsUptoRow, standIns := [], harness := (true, "32ec2fdf4889bdfc74432129ec9ea07e4d7f8b20591c1e4acaa597f58d944a84"), looks := false }, kinds := [], alts := [], laidByText := true, laidKinds := [.data, .data, .data, .data, .pinned], laidTests := true, laidLooks := .later }
def RouteHostsUptoCardSaid : Prop := Claim7.holds Tryz.pinned (.plain (OpenSpec.upto routeHostsSpec)) routeHostsUptoCard
end Rows
end Go.Proofs.YtgjemgilanhdiaaGreatDoor
