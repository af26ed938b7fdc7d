/-
  NARROWER THAN 'FOR EVERY INPUT', by the rows' own cells (each row's printed sentence says how): HopStays: laid · HopKeeps: laid · SurrogateReads: laid · SurrogateBack: laid · SurrogateJoins: laid.
  DERIVED. THE GIVEN ROWS OF THIS SEAT. 5 by the template 'for every input the law returns true; each argument reads behind the call as it read before'; 0 by the template 'total and deterministic' (their statements: YtcfihoniocamaaaDoorTotals.lean).
  GIVEN WITH THE SEED: the statements are not yours to turn. If you find one false, say at which input.
  Laid BY PROGRAM, IN A SANDBOX (cutbox-rows.mjs): the forced cells as the released guide's own fill.sh prints them over the translation b0c274c93a897d4c… (all of the seat's roots in one cut). By AI agents, Wed Nov 11 2026. No macro, syntax, notation, axiom, sorry.
-/
import Derived.Test.YtcfihoniocamaaaDoorChecked
import GoSem.PinnedTables
import GoSem.Claim
import GoSem.ClaimJoined
import GoSem.ClaimMapViews
import Derived.JoinedTies
import Derived.KernelRfl
namespace Go.Proofs.YtcfihoniocamaaaDoor
/- THE CELL 'sum', in the pinned program and in every row, IS THE sha256 OF THE DUMP (.gsa) THAT YtcfihoniocamaaaDoorProg.lean LOADS. Nothing in Lean hashes anything: it is a label: what it is worth is what the hold of that sum in a sandbox is worth. -/
noncomputable def Tryd.pinned : Pinned := { name := "ytcfihoniocamaaadoor", sum := "b0c274c93a897d4cefbbd81d60d338e7fa75a6dc430be17c1456336874de0795", checked := Tryd.checked }
namespace Rows
def none {H : Type} : Left H := { results := [], args := [] }

/- WHAT THE LISTED PACKAGE-LEVEL VARIABLES READ AS WHEN THE CALL BEGINS. Each datum BY PROGRAM (the guide's laid-datum.mjs) off the statement by which the dump's own 'gosem.cut.vars' lays the variable. In a bare row this is a premise. The card (YtcfihoniocamaaaDoorCards.lean) ties it to the program's text. -/
def laid_unicode_utf8_acceptRanges {H : Type} : DataW H := .agg [.agg [.lit (.int .u8 128), .lit (.int .u8 191)], .agg [.lit (.int .u8 160), .lit (.int .u8 191)], .agg [.lit (.int .u8 128), .lit (.int .u8 159)], .agg [.lit (.int .u8 144), .lit (.int .u8 191)], .agg [.lit (.int .u8 128), .lit (.int .u8 143)], .agg [.lit (.int .u8 0), .lit (.int .u8 0)], .agg [.lit (.int .u8 0), .lit (.int .u8 0)], .agg [.lit (.int .u8 0), .lit (.int .u8 0)], .agg [.lit (.int .u8 0), .lit (.int .u8 0)], .agg [.lit (.int .u8 0), .lit (.int .u8 0)], .agg [.lit (.int .u8 0), .lit (.int .u8 0)], .agg [.lit (.int .u8 0), .lit (.int .u8 0)], .agg [.lit (.int .u8 0), .lit (.int .u8 0)], .agg [.lit (.int .u8 0), .lit (.int .u8 0)], .agg [.lit (.int .u8 0), .lit (.int .u8 0)], .agg [.lit (.int .u8 0), .lit (.int .u8 0)]]
/-- One of Go's own tables, pinned by name: the form's constant. -/
def laid_unicode_utf8_first : DataW Unit := Go.Pinned.utf8First

/-- 'intarsialaw13.HopStays': WHATEVER THE INPUT: true; the input reads as it did. -/
def hopStaysSpec : ChangeSpec := { name := "hopStays", fn := fun _ => fun
  | [d] => { results := [.lit (.bool true)], args := [d] }
  | _ => none }
def hopStaysRow : OpenClaim := { program := "ytcfihoniocamaaadoor", sum := "b0c274c93a897d4cefbbd81d60d338e7fa75a6dc430be17c1456336874de0795", func := "intarsia/intarsialaw13.HopStays", spec := "hopStays", inPlace := ["internal/bytealg.IndexByteString", "internal/bytealg.IndexString", "internal/abi.NoEscape", "internal/bytealg.MakeNoZero", "internal/bytealg.CountString"], unfollowed := true, recurses := true, named := ["unicode/utf8.first", "unicode/utf8.acceptRanges", "internal/bytealg.MaxLen"], apart := false, laid := [("unicode/utf8.acceptRanges", laid_unicode_utf8_acceptRanges), ("unicode/utf8.first", laid_unicode_utf8_first)] }
def HopStaysSaid : Prop := hopStaysRow.holds Tryd.pinned (OpenSpec.ofChange hopStaysSpec)

/-- ITS FALSE NEIGHBOUR: 'it returns false'. Refute it at one input. -/
def hopStaysWrong : ChangeSpec := { name := "hopStays", fn := fun _ => fun
  | [d] => { results := [.lit (.bool false)], args := [d] }
  | _ => none }
def HopStaysWrongFalsely : Prop := hopStaysRow.holds Tryd.pinned (OpenSpec.ofChange hopStaysWrong)

/-- 'intarsialaw13.HopKeeps': WHATEVER THE INPUT: true; the input reads as it did. -/
def hopKeepsSpec : ChangeSpec := { name := "hopKeeps", fn := fun _ => fun
  | [d1, d2] => { results := [.lit (.bool true)], args := [d1, d2] }
  | _ => none }
def hopKeepsRow : OpenClaim := { program := "ytcfihoniocamaaadoor", sum := "b0c274c93a897d4cefbbd81d60d338e7fa75a6dc430be17c1456336874de0795", func := "intarsia/intarsialaw13.HopKeeps", spec := "hopKeeps", inPlace := ["internal/bytealg.IndexByteString", "internal/bytealg.IndexString", "internal/abi.NoEscape", "internal/bytealg.MakeNoZero", "internal/bytealg.CountString"], unfollowed := true, recurses := true, named := ["unicode/utf8.first", "unicode/utf8.acceptRanges", "internal/bytealg.MaxLen"], apart := false, laid := [("unicode/utf8.acceptRanges", laid_unicode_utf8_acceptRanges), ("unicode/utf8.first", laid_unicode_utf8_first)] }
def HopKeepsSaid : Prop := hopKeepsRow.holds Tryd.pinned (OpenSpec.ofChange hopKeepsSpec)

/-- ITS FALSE NEIGHBOUR: 'it returns false'. Refute it at one input. -/
def hopKeepsWrong : ChangeSpec := { name := "hopKeeps", fn := fun _ => fun
  | [d1, d2] => { results := [.lit (.bool false)], args := [d1, d2] }
  | _ => none }
def HopKeepsWrongFalsely : Prop := hopKeepsRow.holds Tryd.pinned (OpenSpec.ofChange hopKeepsWrong)

/-- 'intarsialaw12.SurrogateReads': WHATEVER THE INPUT: true; the input reads as it did. -/
def surrogateReadsSpec : ChangeSpec := { name := "surrogateReads", fn := fun _ => fun
  | [d1, d2] => { results := [.lit (.bool true)], args := [d1, d2] }
  | _ => none }
def surrogateReadsRow : OpenClaim := { program := "ytcfihoniocamaaadoor", sum := "b0c274c93a897d4cefbbd81d60d338e7fa75a6dc430be17c1456336874de0795", func := "intarsia/intarsialaw12.SurrogateReads", spec := "surrogateReads", inPlace := ["internal/bytealg.IndexByteString", "internal/bytealg.IndexString", "internal/bytealg.CountString"], unfollowed := true, recurses := true, named := ["unicode/utf8.first", "unicode/utf8.acceptRanges", "internal/bytealg.MaxLen"], apart := false, laid := [("unicode/utf8.acceptRanges", laid_unicode_utf8_acceptRanges), ("unicode/utf8.first", laid_unicode_utf8_first)] }
def SurrogateReadsSaid : Prop := surrogateReadsRow.holds Tryd.pinned (OpenSpec.ofChange surrogateReadsSpec)

/-- ITS FALSE NEIGHBOUR: 'it returns false'. Refute it at one input. -/
def surrogateReadsWrong : ChangeSpec := { name := "surrogateReads", fn := fun _ => fun
  | [d1, d2] => { results := [.lit (.bool false)], args := [d1, d2] }
  | _ => none }
def SurrogateReadsWrongFalsely : Prop := surrogateReadsRow.holds Tryd.pinned (OpenSpec.ofChange surrogateReadsWrong)

/-- 'intarsialaw12.SurrogateBack': WHATEVER THE INPUT: true; the input reads as it did. -/
def surrogateBackSpec : ChangeSpec := { name := "surrogateBack", fn := fun _ => fun
  | [d] => { results := [.lit (.bool true)], args := [d] }
  | _ => none }
def surrogateBackRow : OpenClaim := { program := "ytcfihoniocamaaadoor", sum := "b0c274c93a897d4cefbbd81d60d338e7fa75a6dc430be17c1456336874de0795", func := "intarsia/intarsialaw12.SurrogateBack", spec := "surrogateBack", inPlace := ["internal/bytealg.IndexByteString", "internal/bytealg.IndexString", "internal/bytealg.CountString"], unfollowed := true, recurses := true, named := ["unicode/utf8.first", "unicode/utf8.acceptRanges", "internal/bytealg.MaxLen"], apart := false, laid := [("unicode/utf8.acceptRanges", laid_unicode_utf8_acceptRanges), ("unicode/utf8.first", laid_unicode_utf8_first)] }
def SurrogateBackSaid : Prop := surrogateBackRow.holds Tryd.pinned (OpenSpec.ofChange surrogateBackSpec)

/-- ITS FALSE NEIGHBOUR: 'it returns false'. Refute it at one input. -/
def surrogateBackWrong : ChangeSpec := { name := "surrogateBack", fn := fun _ => fun
  | [d] => { results := [.lit (.bool false)], args := [d] }
  | _ => none }
def SurrogateBackWrongFalsely : Prop := surrogateBackRow.holds Tryd.pinned (OpenSpec.ofChange surrogateBackWrong)

/-- 'intarsialaw12.SurrogateJoins': WHATEVER THE INPUT: true; the input reads as it did. -/
def surrogateJoinsSpec : ChangeSpec := { name := "surrogateJoins", fn := fun _ => fun
  | [d1, d2] => { results := [.lit (.bool true)], args := [d1, d2] }
  | _ => none }
def surrogateJoinsRow : OpenClaim := { program := "ytcfihoniocamaaadoor", sum := "b0c274c93a897d4cefbbd81d60d338e7fa75a6dc430be17c1456336874de0795", func := "intarsia/intarsialaw12.SurrogateJoins", spec := "surrogateJoins", inPlace := ["internal/bytealg.IndexByteString", "internal/bytealg.IndexString", "internal/bytealg.CountString"], unfollowed := true, recurses := true, named := ["unicode/utf8.first", "unicode/utf8.acceptRanges", "internal/bytealg.MaxLen"], apart := false, laid := [("unicode/utf8.acceptRanges", laid_unicode_utf8_acceptRanges), ("unicode/utf8.first", laid_unicode_utf8_first)] }
def SurrogateJoinsSaid : Prop := surrogateJoinsRow.holds Tryd.pinned (OpenSpec.ofChange surrogateJoinsSpec)

/-- ITS FALSE NEIGHBOUR: 'it returns false'. Refute it at one input. -/
def surrogateJoinsWrong : ChangeSpec := { name := "surrogateJoins", fn := fun _ => fun
  | [d1, d2] => { results := [.lit (.bool false)], args := [d1, d2] }
  | _ => none }
def SurrogateJoinsWrongFalsely : Prop := surrogateJoinsRow.holds Tryd.pinned (OpenSpec.ofChange surrogateJoinsWrong)

/- THE SECOND FORM. 'bulk': how many values and letters a reading holds, each counted each time it is reached (what is shared counts as often as it is met; a slice's spare places count too). A statement '..UptoSaid' is the law's where the arguments, and the package variables that the reading takes, are together of bulk at most 1048576: NARROWER than '..Said'. Prove '..Said' where nothing that the law and all that it calls make is longer than what came in: it says more and counts as full. Else prove '..UptoSaid'. A law counts once. -/
mutual
def uptoBulk {H : Type} : DataW H → Nat
  | .lit (.string bytes) => bytes.length + 1
  | .lit _ => 1
  | .nil => 1
  | .ptr d => uptoBulk d + 1
  | .slice elems spare => uptoBulkAll elems + uptoBulkAll spare + 1
  | .agg parts => uptoBulkAll parts + 1
  | .iface _ d => uptoBulk d + 1
  | .map entries => uptoBulkEntries entries + 1
  | .held _ => 1
def uptoBulkAll {H : Type} : List (DataW H) → Nat
  | [] => 0
  | d :: r => uptoBulk d + uptoBulkAll r
def uptoBulkEntries {H : Type} : List (Lit × DataW H) → Nat
  | [] => 0
  | x :: r => uptoBulkEntry x + uptoBulkEntries r
def uptoBulkEntry {H : Type} : Lit × DataW H → Nat
  | (.string bytes, d) => bytes.length + uptoBulk d + 1
  | (_, d) => uptoBulk d + 1
 end
def uptoSmall : (H : Type) → List (DataW H) → Bool := fun _ ds => decide (uptoBulkAll ds ≤ 1048576)
def OpenSpec.upto (s : _root_.Go.ChangeSpec) : _root_.Go.OpenSpec := { _root_.Go.OpenSpec.ofChange s with cond := some uptoSmall }

/-- 'intarsialaw13.HopStays', WHERE WHAT IT READS IS OF BULK AT MOST 1048576: true; the input reads as it did. -/
def hopStaysUptoRow : OpenClaim := { program := "ytcfihoniocamaaadoor", sum := "b0c274c93a897d4cefbbd81d60d338e7fa75a6dc430be17c1456336874de0795", func := "intarsia/intarsialaw13.HopStays", spec := "hopStays", inPlace := ["internal/bytealg.IndexByteString", "internal/bytealg.IndexString", "internal/abi.NoEscape", "internal/bytealg.MakeNoZero", "internal/bytealg.CountString"], unfollowed := true, recurses := true, named := ["unicode/utf8.first", "unicode/utf8.acceptRanges", "internal/bytealg.MaxLen"], apart := false, laid := [("unicode/utf8.acceptRanges", laid_unicode_utf8_acceptRanges), ("unicode/utf8.first", laid_unicode_utf8_first)], narrowed := true }
def HopStaysUptoSaid : Prop := hopStaysUptoRow.holds Tryd.pinned (OpenSpec.upto hopStaysSpec)

/-- 'intarsialaw13.HopKeeps', WHERE WHAT IT READS IS OF BULK AT MOST 1048576: true; the input reads as it did. -/
def hopKeepsUptoRow : OpenClaim := { program := "ytcfihoniocamaaadoor", sum := "b0c274c93a897d4cefbbd81d60d338e7fa75a6dc430be17c1456336874de0795", func := "intarsia/intarsialaw13.HopKeeps", spec := "hopKeeps", inPlace := ["internal/bytealg.IndexByteString", "internal/bytealg.IndexString", "internal/abi.NoEscape", "internal/bytealg.MakeNoZero", "internal/bytealg.CountString"], unfollowed := true, recurses := true, named := ["unicode/utf8.first", "unicode/utf8.acceptRanges", "internal/bytealg.MaxLen"], apart := false, laid := [("unicode/utf8.acceptRanges", laid_unicode_utf8_acceptRanges), ("unicode/utf8.first", laid_unicode_utf8_first)], narrowed := true }
def HopKeepsUptoSaid : Prop := hopKeepsUptoRow.holds Tryd.pinned (OpenSpec.upto hopKeepsSpec)

/-- 'intarsialaw12.SurrogateReads', WHERE WHAT IT READS IS OF BULK AT MOST 1048576: true; the input reads as it did. -/
def surrogateReadsUptoRow : OpenClaim := { program := "ytcfihoniocamaaadoor", sum := "b0c274c93a897d4cefbbd81d60d338e7fa75a6dc430be17c1456336874de0795", func := "intarsia/intarsialaw12.SurrogateReads", spec := "surrogateReads", inPlace := ["internal/bytealg.IndexByteString", "internal/bytealg.IndexString", "internal/bytealg.CountString"], unfollowed := true, recurses := true, named := ["unicode/utf8.first", "unicode/utf8.acceptRanges", "internal/bytealg.MaxLen"], apart := false, laid := [("unicode/utf8.acceptRanges", laid_unicode_utf8_acceptRanges), ("unicode/utf8.first", laid_unicode_utf8_first)], narrowed := true }
def SurrogateReadsUptoSaid : Prop := surrogateReadsUptoRow.holds Tryd.pinned (OpenSpec.upto surrogateReadsSpec)

/-- 'intarsialaw12.SurrogateBack', WHERE WHAT IT READS IS OF BULK AT MOST 1048576: true; the input reads as it did. -/
def surrogateBackUptoRow : OpenClaim := { program := "ytcfihoniocamaaadoor", sum := "b0c274c93a897d4cefbbd81d60d338e7fa75a6dc430be17c1456336874de0795", func := "intarsia/intarsialaw12.SurrogateBack", spec := "surrogateBack", inPlace := ["internal/bytealg.IndexByteString", "internal/bytealg.IndexString", "internal/bytealg.CountString"], unfollowed := true, recurses := true, named := ["unicode/utf8.first", "unicode/utf8.acceptRanges", "internal/bytealg.MaxLen"], apart := false, laid := [("unicode/utf8.acceptRanges", laid_unicode_utf8_acceptRanges), ("unicode/utf8.first", laid_unicode_utf8_first)], narrowed := true }
def SurrogateBackUptoSaid : Prop := surrogateBackUptoRow.holds Tryd.pinned (OpenSpec.upto surrogateBackSpec)

/-- 'intarsialaw12.SurrogateJoins', WHERE WHAT IT READS IS OF BULK AT MOST 1048576: true; the input reads as it did. -/
def surrogateJoinsUptoRow : OpenClaim := { program := "ytcfihoniocamaaadoor", sum := "b0c274c93a897d4cefbbd81d60d338e7fa75a6dc430be17c1456336874de0795", func := "intarsia/intarsialaw12.SurrogateJoins", spec := "surrogateJoins", inPlace := ["internal/bytealg.IndexByteString", "internal/bytealg.IndexString", "internal/bytealg.CountString"], unfollowed := true, recurses := true, named := ["unicode/utf8.first", "unicode/utf8.acceptRanges", "internal/bytealg.MaxLen"], apart := false, laid := [("unicode/utf8.acceptRanges", laid_unicode_utf8_acceptRanges), ("unicode/utf8.first", laid_unicode_utf8_first)], narrowed := true }
def SurrogateJoinsUptoSaid : Prop := surrogateJoinsUptoRow.holds Tryd.pinned (OpenSpec.upto surrogateJoinsSpec)

end Rows
end Go.Proofs.YtcfihoniocamaaaDoor
