/-
  DERIVED. GIVEN WITH THE SEED: THE CARDS: each row of YtpglgembgpoeiaaDoorRows.lean that lists a variable, with what it lists TIED to the program's text (the seventh form; the later family's looks); each row that meets fmt, with fmt's text TOLD by the authors' own Lean function (tested against real Go, not proved from fmt's source: count such statements apart). THE CARD IS WHAT COUNTS. Prove the row's statement (the work); the ties are given (YtpglgembgpoeiaaDoorTie.lean); close each card by the builder's one call (the guide's Derived/Test/ToyasCard.lean, 'card_holds'). Laid BY PROGRAM, IN A SANDBOX (cutbox-door.mjs). By AI agents, Wed Nov 11 2026. No macro, syntax, notation, axiom, sorry.
-/
import Derived.Test.YtpglgembgpoeiaaDoorRows
import GoSem.ClaimSeven
namespace Go.Proofs.YtpglgembgpoeiaaDoor
namespace Rows

/-- THE TIED CARD OF 'intarsialaw05.UriReads'. -/
def uriReadsCard : Claim7 := { stood := { row := uriReadsRow, standIns := [], harness := (true, "d8b662fe2217054a8d98c410cefaca409654e50970cc1adf997a0ec3204dfacc"), looks := false }, kinds := [], alts := [], laidByText := true, laidKinds := [.data, .data, .data], laidTests := true, laidLooks := .later }
def UriReadsCardSaid : Prop := Claim7.holds Tryd.pinned (.plain (OpenSpec.ofChange uriReadsSpec)) uriReadsCard

/-- THE TIED CARD OF 'intarsialaw05.UriBack'. -/
def uriBackCard : Claim7 := { stood := { row := uriBackRow, standIns := [], harness := (true, "d8b662fe2217054a8d98c410cefaca409654e50970cc1adf997a0ec3204dfacc"), looks := false }, kinds := [], alts := [], laidByText := true, laidKinds := [.data, .data, .data], laidTests := true, laidLooks := .later }
def UriBackCardSaid : Prop := Claim7.holds Tryd.pinned (.plain (OpenSpec.ofChange uriBackSpec)) uriBackCard

/-- THE TIED CARD OF 'intarsialaw05.UriHosts'. -/
def uriHostsCard : Claim7 := { stood := { row := uriHostsRow, standIns := [], harness := (true, "d8b662fe2217054a8d98c410cefaca409654e50970cc1adf997a0ec3204dfacc"), looks := false }, kinds := [], alts := [], laidByText := true, laidKinds := [.data, .data, .data, .data, .pinned, .pinned], laidTests := true, laidLooks := .later }
def UriHostsCardSaid : Prop := Claim7.holds Tryd.pinned (.plain (OpenSpec.ofChange uriHostsSpec)) uriHostsCard

/-- THE SECOND FORM's CARD OF 'intarsialaw05.UriReads'. -/
def uriReadsUptoCard : Claim7 := { stood := { row := uriReadsUptoRow, standIns := [], harness := (true, "d8b662fe2217054a8d98c410cefaca409654e50970cc1adf997a0ec3204dfacc"), looks := false }, kinds := [], alts := [], laidByText := true, laidKinds := [.data, .data, .data], laidTests := true, laidLooks := .later }
def UriReadsUptoCardSaid : Prop := Claim7.holds Tryd.pinned (.plain (OpenSpec.upto uriReadsSpec)) uriReadsUptoCard

/-- THE SECOND FORM's CARD OF 'intarsialaw05.UriBack'. -/
def uriBackUptoCard : Claim7 := { stood := { row := uriBackUptoRow, standIns := [], harness := (true, "d8b662fe2217054a8d98c410cefaca409654e50970cc1adf997a0ec3204dfacc"), looks := false }, kinds := [], alts := [], laidByText := true, laidKinds := [.data, .data, .data], laidTests := true, laidLooks := .later }
def UriBackUptoCardSaid : Prop := Claim7.holds Tryd.pinned (.plain (OpenSpec.upto uriBackSpec)) uriBackUptoCard

/-- THE SECOND FORM's CARD OF 'intarsialaw05.UriHosts'. -/
def uriHostsUptoCard : Claim7 := { stood := { row := uriHostsUptoRow, standIns := [], harness := (true, "d8b662fe2217054a8d98c410cefaca409654e50970cc1adf997a0ec3204dfacc"), looks := false }, kinds := [], alts := [], laidByText := true, laidKinds := [.data, .data, .data, .data, .pinned, .pinned], laidTests := true, laidLooks := .later }
def UriHostsUptoCardSaid : Prop := Claim7.holds Tryd.pinned (.plain (OpenSpec.upto uriHostsSpec)) uriHostsUptoCard
end Rows
end Go.Proofs.YtpglgembgpoeiaaDoor
