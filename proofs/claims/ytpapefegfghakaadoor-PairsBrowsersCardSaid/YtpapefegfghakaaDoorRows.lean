/-
  NARROWER THAN 'FOR EVERY INPUT', by the rows' own cells (each row's printed sentence says how): PairsBack: laid · PairsCodes: laid · PairsBrowsers: laid · PairsReads: laid · PairsJoins: laid.
  DERIVED. THE GIVEN ROWS OF THIS SEAT. 5 by the template 'for every input the law returns true; each argument reads behind the call as it read before'; 0 by the template 'total and deterministic' (their statements: YtpapefegfghakaaDoorTotals.lean).
  GIVEN WITH THE SEED: the statements are not yours to turn. If you find one false, say at which input.
  Laid BY PROGRAM, IN A SANDBOX (cutbox-rows.mjs): the forced cells as the released guide's own fill.sh prints them over the translation 45338eccb606acc5… (all of the seat's roots in one cut). By AI agents, Wed Nov 11 2026. No macro, syntax, notation, axiom, sorry.
-/
import Derived.Test.YtpapefegfghakaaDoorChecked
import GoSem.PinnedTables
import GoSem.Claim
import GoSem.ClaimJoined
import GoSem.ClaimMapViews
import Derived.JoinedTies
import Derived.KernelRfl
namespace Go.Proofs.YtpapefegfghakaaDoor
/- THE CELL 'sum', in the pinned program and in every row, IS THE sha256 OF THE DUMP (.gsa) THAT YtpapefegfghakaaDoorProg.lean LOADS. Nothing in Lean hashes anything: it is a label: what it is worth is what the hold of that sum in a sandbox is worth. -/
noncomputable def Tryd.pinned : Pinned := { name := "ytpapefegfghakaadoor", sum := "45338eccb606acc5b5690cd380e92cb6d63b6bebe850a7b3579e89cd835c22a9", checked := Tryd.checked }
namespace Rows
def none {H : Type} : Left H := { results := [], args := [] }

/- WHAT THE LISTED PACKAGE-LEVEL VARIABLES READ AS WHEN THE CALL BEGINS. Each datum BY PROGRAM (the guide's laid-datum.mjs) off the statement by which the dump's own 'gosem.cut.vars' lays the variable. In a bare row this is a premise. The card (YtpapefegfghakaaDoorCards.lean) ties it to the program's text. -/
def laid_unicode_utf8_acceptRanges {H : Type} : DataW H := .agg [.agg [.lit (.int .u8 128), .lit (.int .u8 191)], .agg [.lit (.int .u8 160), .lit (.int .u8 191)], .agg [.lit (.int .u8 128), .lit (.int .u8 159)], .agg [.lit (.int .u8 144), .lit (.int .u8 191)], .agg [.lit (.int .u8 128), .lit (.int .u8 143)], .agg [.lit (.int .u8 0), .lit (.int .u8 0)], .agg [.lit (.int .u8 0), .lit (.int .u8 0)], .agg [.lit (.int .u8 0), .lit (.int .u8 0)], .agg [.lit (.int .u8 0), .lit (.int .u8 0)], .agg [.lit (.int .u8 0), .lit (.int .u8 0)], .agg [.lit (.int .u8 0), .lit (.int .u8 0)], .agg [.lit (.int .u8 0), .lit (.int .u8 0)], .agg [.lit (.int .u8 0), .lit (.int .u8 0)], .agg [.lit (.int .u8 0), .lit (.int .u8 0)], .agg [.lit (.int .u8 0), .lit (.int .u8 0)], .agg [.lit (.int .u8 0), .lit (.int .u8 0)]]
/-- One of Go's own tables, pinned by name: the form's constant. -/
def laid_unicode_utf8_first : DataW Unit := Go.Pinned.utf8First

/-- 'intarsialaw11.PairsBack': WHATEVER THE INPUT: true; the input reads as it did. -/
def pairsBackSpec : ChangeSpec := { name := "pairsBack", fn := fun _ => fun
  | [d] => { results := [.lit (.bool true)], args := [d] }
  | _ => none }
def pairsBackRow : OpenClaim := { program := "ytpapefegfghakaadoor", sum := "45338eccb606acc5b5690cd380e92cb6d63b6bebe850a7b3579e89cd835c22a9", func := "intarsia/intarsialaw11.PairsBack", spec := "pairsBack", inPlace := ["internal/bytealg.IndexByteString", "internal/bytealg.IndexString", "internal/bytealg.CountString"], unfollowed := true, recurses := true, named := ["internal/bytealg.MaxLen", "unicode/utf8.first", "unicode/utf8.acceptRanges"], apart := false, laid := [("unicode/utf8.acceptRanges", laid_unicode_utf8_acceptRanges), ("unicode/utf8.first", laid_unicode_utf8_first)] }
def PairsBackSaid : Prop := pairsBackRow.holds Tryd.pinned (OpenSpec.ofChange pairsBackSpec)

/-- ITS FALSE NEIGHBOUR: 'it returns false'. Refute it at one input. -/
def pairsBackWrong : ChangeSpec := { name := "pairsBack", fn := fun _ => fun
  | [d] => { results := [.lit (.bool false)], args := [d] }
  | _ => none }
def PairsBackWrongFalsely : Prop := pairsBackRow.holds Tryd.pinned (OpenSpec.ofChange pairsBackWrong)

/-- 'intarsialaw11.PairsCodes': WHATEVER THE INPUT: true; the input reads as it did. -/
def pairsCodesSpec : ChangeSpec := { name := "pairsCodes", fn := fun _ => fun
  | [d] => { results := [.lit (.bool true)], args := [d] }
  | _ => none }
def pairsCodesRow : OpenClaim := { program := "ytpapefegfghakaadoor", sum := "45338eccb606acc5b5690cd380e92cb6d63b6bebe850a7b3579e89cd835c22a9", func := "intarsia/intarsialaw11.PairsCodes", spec := "pairsCodes", inPlace := ["internal/bytealg.IndexByteString", "internal/bytealg.IndexString", "internal/bytealg.CountString"], unfollowed := true, recurses := true, named := ["internal/bytealg.MaxLen", "unicode/utf8.first", "unicode/utf8.acceptRanges"], apart := false, laid := [("unicode/utf8.acceptRanges", laid_unicode_utf8_acceptRanges), ("unicode/utf8.first", laid_unicode_utf8_first)] }
def PairsCodesSaid : Prop := pairsCodesRow.holds Tryd.pinned (OpenSpec.ofChange pairsCodesSpec)

/-- ITS FALSE NEIGHBOUR: 'it returns false'. Refute it at one input. -/
def pairsCodesWrong : ChangeSpec := { name := "pairsCodes", fn := fun _ => fun
  | [d] => { results := [.lit (.bool false)], args := [d] }
  | _ => none }
def PairsCodesWrongFalsely : Prop := pairsCodesRow.holds Tryd.pinned (OpenSpec.ofChange pairsCodesWrong)

/-- 'intarsialaw11.PairsBrowsers': WHATEVER THE INPUT: true; the input reads as it did. -/
def pairsBrowsersSpec : ChangeSpec := { name := "pairsBrowsers", fn := fun _ => fun
  | [d] => { results := [.lit (.bool true)], args := [d] }
  | _ => none }
def pairsBrowsersRow : OpenClaim := { program := "ytpapefegfghakaadoor", sum := "45338eccb606acc5b5690cd380e92cb6d63b6bebe850a7b3579e89cd835c22a9", func := "intarsia/intarsialaw11.PairsBrowsers", spec := "pairsBrowsers", inPlace := ["internal/bytealg.IndexByteString", "internal/bytealg.IndexString", "internal/bytealg.CountString"], unfollowed := true, recurses := true, named := ["internal/bytealg.MaxLen", "unicode/utf8.first", "unicode/utf8.acceptRanges"], apart := false, laid := [("unicode/utf8.acceptRanges", laid_unicode_utf8_acceptRanges), ("unicode/utf8.first", laid_unicode_utf8_first)] }
def PairsBrowsersSaid : Prop := pairsBrowsersRow.holds Tryd.pinned (OpenSpec.ofChange pairsBrowsersSpec)

/-- ITS FALSE NEIGHBOUR: 'it returns false'. Refute it at one input. -/
def pairsBrowsersWrong : ChangeSpec := { name := "pairsBrowsers", fn := fun _ => fun
  | [d] => { results := [.lit (.bool false)], args := [d] }
  | _ => none }
def PairsBrowsersWrongFalsely : Prop := pairsBrowsersRow.holds Tryd.pinned (OpenSpec.ofChange pairsBrowsersWrong)

/-- 'intarsialaw11.PairsReads': WHATEVER THE INPUT: true; the input reads as it did. -/
def pairsReadsSpec : ChangeSpec := { name := "pairsReads", fn := fun _ => fun
  | [d1, d2] => { results := [.lit (.bool true)], args := [d1, d2] }
  | _ => none }
def pairsReadsRow : OpenClaim := { program := "ytpapefegfghakaadoor", sum := "45338eccb606acc5b5690cd380e92cb6d63b6bebe850a7b3579e89cd835c22a9", func := "intarsia/intarsialaw11.PairsReads", spec := "pairsReads", inPlace := ["internal/bytealg.IndexByteString", "internal/bytealg.IndexString", "internal/bytealg.CountString"], unfollowed := true, recurses := true, named := ["internal/bytealg.MaxLen", "unicode/utf8.first", "unicode/utf8.acceptRanges"], apart := false, laid := [("unicode/utf8.acceptRanges", laid_unicode_utf8_acceptRanges), ("unicode/utf8.first", laid_unicode_utf8_first)] }
def PairsReadsSaid : Prop := pairsReadsRow.holds Tryd.pinned (OpenSpec.ofChange pairsReadsSpec)

/-- ITS FALSE NEIGHBOUR: 'it returns false'. Refute it at one input. -/
def pairsReadsWrong : ChangeSpec := { name := "pairsReads", fn := fun _ => fun
  | [d1, d2] => { results := [.lit (.bool false)], args := [d1, d2] }
  | _ => none }
def PairsReadsWrongFalsely : Prop := pairsReadsRow.holds Tryd.pinned (OpenSpec.ofChange pairsReadsWrong)

/-- 'intarsialaw11.PairsJoins': WHATEVER THE INPUT: true; the input reads as it did. -/
def pairsJoinsSpec : ChangeSpec := { name := "pairsJoins", fn := fun _ => fun
  | [d1, d2, d3] => { results := [.lit (.bool true)], args := [d1, d2, d3] }
  | _ => none }
def pairsJoinsRow : OpenClaim := { program := "ytpapefegfghakaadoor", sum := "45338eccb606acc5b5690cd380e92cb6d63b6bebe850a7b3579e89cd835c22a9", func := "intarsia/intarsialaw11.PairsJoins", spec := "pairsJoins", inPlace := ["internal/bytealg.IndexByteString", "internal/bytealg.IndexString", "internal/bytealg.CountString"], unfollowed := true, recurses := true, named := ["internal/bytealg.MaxLen", "unicode/utf8.first", "unicode/utf8.acceptRanges"], apart := false, laid := [("unicode/utf8.acceptRanges", laid_unicode_utf8_acceptRanges), ("unicode/utf8.first", laid_unicode_utf8_first)] }
def PairsJoinsSaid : Prop := pairsJoinsRow.holds Tryd.pinned (OpenSpec.ofChange pairsJoinsSpec)

/-- ITS FALSE NEIGHBOUR: 'it returns false'. Refute it at one input. -/
def pairsJoinsWrong : ChangeSpec := { name := "pairsJoins", fn := fun _ => fun
  | [d1, d2, d3] => { results := [.lit (.bool false)], args := [d1, d2, d3] }
  | _ => none }
def PairsJoinsWrongFalsely : Prop := pairsJoinsRow.holds Tryd.pinned (OpenSpec.ofChange pairsJoinsWrong)

/- THE SECOND FORM. 'bulk': how many values and letters a reading holds, each counted each time it is reached (what is shared counts as often as it is met; a slice's spare places count too). A statement '..UptoSaid' is the law's where the arguments, and the package variables that the reading takes, are together of bulk at most 1048576: NARROWER than '..Said'. Prove '..Said' where nothing that the law and all that it calls make is longer than what came in: it says more and counts as full. Else prove '..UptoSaid'. A law counts once. -/
mutual
def uptoBulk {H : Type} : DataW H → Nat
  | .lit (.string bytes) => bytes.length + 1
  | .lit _ => 1
  | .nil => 1
  | .ptr d => uptoBulk d + 1
  | .slice elems spare => uptoBulkAll elems + uptoBulkAll spare + 1
  | .agg parts => uptoBulkAll parts + 1
  | .iface _ d => uptoBulk d + 1
  | .map entries => uptoBulkEntries entries + 1
  | .held _ => 1
def uptoBulkAll {H : Type} : List (DataW H) → Nat
  | [] => 0
  | d :: r => uptoBulk d + uptoBulkAll r
def uptoBulkEntries {H : Type} : List (Lit × DataW H) → Nat
  | [] => 0
  | x :: r => uptoBulkEntry x + uptoBulkEntries r
def uptoBulkEntry {H : Type} : Lit × DataW H → Nat
  | (.string bytes, d) => bytes.length + uptoBulk d + 1
  | (_, d) => uptoBulk d + 1
 end
def uptoSmall : (H : Type) → List (DataW H) → Bool := fun _ ds => decide (uptoBulkAll ds ≤ 1048576)
def OpenSpec.upto (s : _root_.Go.ChangeSpec) : _root_.Go.OpenSpec := { _root_.Go.OpenSpec.ofChange s with cond := some uptoSmall }

/-- 'intarsialaw11.PairsBack', WHERE WHAT IT READS IS OF BULK AT MOST 1048576: true; the input reads as it did. -/
def pairsBackUptoRow : OpenClaim := { program := "ytpapefegfghakaadoor", sum := "45338eccb606acc5b5690cd380e92cb6d63b6bebe850a7b3579e89cd835c22a9", func := "intarsia/intarsialaw11.PairsBack", spec := "pairsBack", inPlace := ["internal/bytealg.IndexByteString", "internal/bytealg.IndexString", "internal/bytealg.CountString"], unfollowed := true, recurses := true, named := ["internal/bytealg.MaxLen", "unicode/utf8.first", "unicode/utf8.acceptRanges"], apart := false, laid := [("unicode/utf8.acceptRanges", laid_unicode_utf8_acceptRanges), ("unicode/utf8.first", laid_unicode_utf8_first)], narrowed := true }
def PairsBackUptoSaid : Prop := pairsBackUptoRow.holds Tryd.pinned (OpenSpec.upto pairsBackSpec)

/-- 'intarsialaw11.PairsCodes', WHERE WHAT IT READS IS OF BULK AT MOST 1048576: true; the input reads as it did. -/
def pairsCodesUptoRow : OpenClaim := { program := "ytpapefegfghakaadoor", sum := "45338eccb606acc5b5690cd380e92cb6d63b6bebe850a7b3579e89cd835c22a9", func := "intarsia/intarsialaw11.PairsCodes", spec := "pairsCodes", inPlace := ["internal/bytealg.IndexByteString", "internal/bytealg.IndexString", "internal/bytealg.CountString"], unfollowed := true, recurses := true, named := ["internal/bytealg.MaxLen", "unicode/utf8.first", "unicode/utf8.acceptRanges"], apart := false, laid := [("unicode/utf8.acceptRanges", laid_unicode_utf8_acceptRanges), ("unicode/utf8.first", laid_unicode_utf8_first)], narrowed := true }
def PairsCodesUptoSaid : Prop := pairsCodesUptoRow.holds Tryd.pinned (OpenSpec.upto pairsCodesSpec)

/-- 'intarsialaw11.PairsBrowsers', WHERE WHAT IT READS IS OF BULK AT MOST 1048576: true; the input reads as it did. -/
def pairsBrowsersUptoRow : OpenClaim := { program := "ytpapefegfghakaadoor", sum := "45338eccb606acc5b5690cd380e92cb6d63b6bebe850a7b3579e89cd835c22a9", func := "intarsia/intarsialaw11.PairsBrowsers", spec := "pairsBrowsers", inPlace := ["internal/bytealg.IndexByteString", "internal/bytealg.IndexString", "internal/bytealg.CountString"], unfollowed := true, recurses := true, named := ["internal/bytealg.MaxLen", "unicode/utf8.first", "unicode/utf8.acceptRanges"], apart := false, laid := [("unicode/utf8.acceptRanges", laid_unicode_utf8_acceptRanges), ("unicode/utf8.first", laid_unicode_utf8_first)], narrowed := true }
def PairsBrowsersUptoSaid : Prop := pairsBrowsersUptoRow.holds Tryd.pinned (OpenSpec.upto pairsBrowsersSpec)

/-- 'intarsialaw11.PairsReads', WHERE WHAT IT READS IS OF BULK AT MOST 1048576: true; the input reads as it did. -/
def pairsReadsUptoRow : OpenClaim := { program := "ytpapefegfghakaadoor", sum := "45338eccb606acc5b5690cd380e92cb6d63b6bebe850a7b3579e89cd835c22a9", func := "intarsia/intarsialaw11.PairsReads", spec := "pairsReads", inPlace := ["internal/bytealg.IndexByteString", "internal/bytealg.IndexString", "internal/bytealg.CountString"], unfollowed := true, recurses := true, named := ["internal/bytealg.MaxLen", "unicode/utf8.first", "unicode/utf8.acceptRanges"], apart := false, laid := [("unicode/utf8.acceptRanges", laid_unicode_utf8_acceptRanges), ("unicode/utf8.first", laid_unicode_utf8_first)], narrowed := true }
def PairsReadsUptoSaid : Prop := pairsReadsUptoRow.holds Tryd.pinned (OpenSpec.upto pairsReadsSpec)

/-- 'intarsialaw11.PairsJoins', WHERE WHAT IT READS IS OF BULK AT MOST 1048576: true; the input reads as it did. -/
def pairsJoinsUptoRow : OpenClaim := { program := "ytpapefegfghakaadoor", sum := "45338eccb606acc5b5690cd380e92cb6d63b6bebe850a7b3579e89cd835c22a9", func := "intarsia/intarsialaw11.PairsJoins", spec := "pairsJoins", inPlace := ["internal/bytealg.IndexByteString", "internal/bytealg.IndexString", "internal/bytealg.CountString"], unfollowed := true, recurses := true, named := ["internal/bytealg.MaxLen", "unicode/utf8.first", "unicode/utf8.acceptRanges"], apart := false, laid := [("unicode/utf8.acceptRanges", laid_unicode_utf8_acceptRanges), ("unicode/utf8.first", laid_unicode_utf8_first)], narrowed := true }
def PairsJoinsUptoSaid : Prop := pairsJoinsUptoRow.holds Tryd.pinned (OpenSpec.upto pairsJoinsSpec)

end Rows
end Go.Proofs.YtpapefegfghakaaDoor
