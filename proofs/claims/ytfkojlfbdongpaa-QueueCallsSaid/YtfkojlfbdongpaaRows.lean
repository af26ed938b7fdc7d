/-
  No cell of these rows narrows 'for every input' (looked for: loops, veiled, ifaces, maps, wideKeys, modest, calm, conditions, laid).
  DERIVED. THE GIVEN ROWS OF THIS SEAT. 5 by the template 'for every input the law returns true; each argument reads behind the call as it read before'; 0 by the template 'total and deterministic' (their statements: YtfkojlfbdongpaaTotals.lean).
  GIVEN WITH THE SEED: the statements are not yours to turn. If you find one false, say at which input.
  Laid BY PROGRAM, IN A SANDBOX (cutbox-rows.mjs): the forced cells as the released guide's own fill.sh prints them over the translation 706b11054603b5ad… (all of the seat's roots in one cut). By AI agents, Wed Nov 11 2026. No macro, syntax, notation, axiom, sorry.
-/
import Derived.Test.YtfkojlfbdongpaaChecked
import GoSem.Claim
import GoSem.ClaimJoined
import GoSem.ClaimMapViews
import Derived.JoinedTies
import Derived.KernelRfl
namespace Go.Proofs.Ytfkojlfbdongpaa
/- THE CELL 'sum', in the pinned program and in every row, IS THE sha256 OF THE DUMP (.gsa) THAT YtfkojlfbdongpaaProg.lean LOADS. Nothing in Lean hashes anything: it is a label: what it is worth is what the hold of that sum in a sandbox is worth. -/
noncomputable def Try.pinned : Pinned := { name := "ytfkojlfbdongpaa", sum := "706b11054603b5ad577d4eab77f1a23a59ba7848ccbeca8edc1058abd8703fdc", checked := Try.checked }
namespace Rows
def none {H : Type} : Left H := { results := [], args := [] }

/-- 'intarsialaw01.QueueNews': WHATEVER THE INPUT: true; the input reads as it did. -/
def queueNewsSpec : ChangeSpec := { name := "queueNews", fn := fun _ => fun
  | [d1, d2] => { results := [.lit (.bool true)], args := [d1, d2] }
  | _ => none }
def queueNewsRow : OpenClaim := { program := "ytfkojlfbdongpaa", sum := "706b11054603b5ad577d4eab77f1a23a59ba7848ccbeca8edc1058abd8703fdc", func := "intarsia/intarsialaw01.QueueNews", spec := "queueNews", apart := false }
def QueueNewsSaid : Prop := queueNewsRow.holds Try.pinned (OpenSpec.ofChange queueNewsSpec)

/-- ITS FALSE NEIGHBOUR: 'it returns false'. Refute it at one input. -/
def queueNewsWrong : ChangeSpec := { name := "queueNews", fn := fun _ => fun
  | [d1, d2] => { results := [.lit (.bool false)], args := [d1, d2] }
  | _ => none }
def QueueNewsWrongFalsely : Prop := queueNewsRow.holds Try.pinned (OpenSpec.ofChange queueNewsWrong)

/-- 'intarsialaw01.QueueOrder': WHATEVER THE INPUT: true; the input reads as it did. -/
def queueOrderSpec : ChangeSpec := { name := "queueOrder", fn := fun _ => fun
  | [d1, d2] => { results := [.lit (.bool true)], args := [d1, d2] }
  | _ => none }
def queueOrderRow : OpenClaim := { program := "ytfkojlfbdongpaa", sum := "706b11054603b5ad577d4eab77f1a23a59ba7848ccbeca8edc1058abd8703fdc", func := "intarsia/intarsialaw01.QueueOrder", spec := "queueOrder", unfollowed := true, recurses := true, apart := false }
def QueueOrderSaid : Prop := queueOrderRow.holds Try.pinned (OpenSpec.ofChange queueOrderSpec)

/-- ITS FALSE NEIGHBOUR: 'it returns false'. Refute it at one input. -/
def queueOrderWrong : ChangeSpec := { name := "queueOrder", fn := fun _ => fun
  | [d1, d2] => { results := [.lit (.bool false)], args := [d1, d2] }
  | _ => none }
def QueueOrderWrongFalsely : Prop := queueOrderRow.holds Try.pinned (OpenSpec.ofChange queueOrderWrong)

/-- 'intarsialaw01.QueueTwice': WHATEVER THE INPUT: true; the input reads as it did. -/
def queueTwiceSpec : ChangeSpec := { name := "queueTwice", fn := fun _ => fun
  | [d1, d2, d3, d4, d5] => { results := [.lit (.bool true)], args := [d1, d2, d3, d4, d5] }
  | _ => none }
def queueTwiceRow : OpenClaim := { program := "ytfkojlfbdongpaa", sum := "706b11054603b5ad577d4eab77f1a23a59ba7848ccbeca8edc1058abd8703fdc", func := "intarsia/intarsialaw01.QueueTwice", spec := "queueTwice", unfollowed := true, recurses := true, apart := false }
def QueueTwiceSaid : Prop := queueTwiceRow.holds Try.pinned (OpenSpec.ofChange queueTwiceSpec)

/-- ITS FALSE NEIGHBOUR: 'it returns false'. Refute it at one input. -/
def queueTwiceWrong : ChangeSpec := { name := "queueTwice", fn := fun _ => fun
  | [d1, d2, d3, d4, d5] => { results := [.lit (.bool false)], args := [d1, d2, d3, d4, d5] }
  | _ => none }
def QueueTwiceWrongFalsely : Prop := queueTwiceRow.holds Try.pinned (OpenSpec.ofChange queueTwiceWrong)

/-- 'intarsialaw01.QueueLines': WHATEVER THE INPUT: true; the input reads as it did. -/
def queueLinesSpec : ChangeSpec := { name := "queueLines", fn := fun _ => fun
  | [d] => { results := [.lit (.bool true)], args := [d] }
  | _ => none }
def queueLinesRow : OpenClaim := { program := "ytfkojlfbdongpaa", sum := "706b11054603b5ad577d4eab77f1a23a59ba7848ccbeca8edc1058abd8703fdc", func := "intarsia/intarsialaw01.QueueLines", spec := "queueLines", inPlace := ["internal/bytealg.IndexByteString"], unfollowed := true, recurses := true, apart := false }
def QueueLinesSaid : Prop := queueLinesRow.holds Try.pinned (OpenSpec.ofChange queueLinesSpec)

/-- ITS FALSE NEIGHBOUR: 'it returns false'. Refute it at one input. -/
def queueLinesWrong : ChangeSpec := { name := "queueLines", fn := fun _ => fun
  | [d] => { results := [.lit (.bool false)], args := [d] }
  | _ => none }
def QueueLinesWrongFalsely : Prop := queueLinesRow.holds Try.pinned (OpenSpec.ofChange queueLinesWrong)

/-- 'intarsialaw01.QueueCalls': WHATEVER THE INPUT: true; the input reads as it did. -/
def queueCallsSpec : ChangeSpec := { name := "queueCalls", fn := fun _ => fun
  | [d1, d2, d3] => { results := [.lit (.bool true)], args := [d1, d2, d3] }
  | _ => none }
def queueCallsRow : OpenClaim := { program := "ytfkojlfbdongpaa", sum := "706b11054603b5ad577d4eab77f1a23a59ba7848ccbeca8edc1058abd8703fdc", func := "intarsia/intarsialaw01.QueueCalls", spec := "queueCalls", inPlace := ["internal/bytealg.IndexByteString"], unfollowed := true, recurses := true, apart := false }
def QueueCallsSaid : Prop := queueCallsRow.holds Try.pinned (OpenSpec.ofChange queueCallsSpec)

/-- ITS FALSE NEIGHBOUR: 'it returns false'. Refute it at one input. -/
def queueCallsWrong : ChangeSpec := { name := "queueCalls", fn := fun _ => fun
  | [d1, d2, d3] => { results := [.lit (.bool false)], args := [d1, d2, d3] }
  | _ => none }
def QueueCallsWrongFalsely : Prop := queueCallsRow.holds Try.pinned (OpenSpec.ofChange queueCallsWrong)

/- THE SECOND FORM. 'bulk': how many values and letters a reading holds, each counted each time it is reached (what is shared counts as often as it is met; a slice's spare places count too). A statement '..UptoSaid' is the law's where the arguments, and the package variables that the reading takes, are together of bulk at most 1048576: NARROWER than '..Said'. Prove '..Said' where nothing that the law and all that it calls make is longer than what came in: it says more and counts as full. Else prove '..UptoSaid'. A law counts once. -/
mutual
def uptoBulk {H : Type} : DataW H → Nat
  | .lit (.string bytes) => bytes.length + 1
  | .lit _ => 1
  | .nil => 1
  | .ptr d => uptoBulk d + 1
  | .slice elems spare => uptoBulkAll elems + uptoBulkAll spare + 1
  | .agg parts => uptoBulkAll parts + 1
  | .iface _ d => uptoBulk d + 1
  | .map entries => uptoBulkEntries entries + 1
  | .held _ => 1
def uptoBulkAll {H : Type} : List (DataW H) → Nat
  | [] => 0
  | d :: r => uptoBulk d + uptoBulkAll r
def uptoBulkEntries {H : Type} : List (Lit × DataW H) → Nat
  | [] => 0
  | x :: r => uptoBulkEntry x + uptoBulkEntries r
def uptoBulkEntry {H : Type} : Lit × DataW H → Nat
  | (.string bytes, d) => bytes.length + uptoBulk d + 1
  | (_, d) => uptoBulk d + 1
 end
def uptoSmall : (H : Type) → List (DataW H) → Bool := fun _ ds => decide (uptoBulkAll ds ≤ 1048576)
def OpenSpec.upto (s : _root_.Go.ChangeSpec) : _root_.Go.OpenSpec := { _root_.Go.OpenSpec.ofChange s with cond := some uptoSmall }

/-- 'intarsialaw01.QueueNews', WHERE WHAT IT READS IS OF BULK AT MOST 1048576: true; the input reads as it did. -/
def queueNewsUptoRow : OpenClaim := { program := "ytfkojlfbdongpaa", sum := "706b11054603b5ad577d4eab77f1a23a59ba7848ccbeca8edc1058abd8703fdc", func := "intarsia/intarsialaw01.QueueNews", spec := "queueNews", apart := false, narrowed := true }
def QueueNewsUptoSaid : Prop := queueNewsUptoRow.holds Try.pinned (OpenSpec.upto queueNewsSpec)

/-- 'intarsialaw01.QueueOrder', WHERE WHAT IT READS IS OF BULK AT MOST 1048576: true; the input reads as it did. -/
def queueOrderUptoRow : OpenClaim := { program := "ytfkojlfbdongpaa", sum := "706b11054603b5ad577d4eab77f1a23a59ba7848ccbeca8edc1058abd8703fdc", func := "intarsia/intarsialaw01.QueueOrder", spec := "queueOrder", unfollowed := true, recurses := true, apart := false, narrowed := true }
def QueueOrderUptoSaid : Prop := queueOrderUptoRow.holds Try.pinned (OpenSpec.upto queueOrderSpec)

/-- 'intarsialaw01.QueueTwice', WHERE WHAT IT READS IS OF BULK AT MOST 1048576: true; the input reads as it did. -/
def queueTwiceUptoRow : OpenClaim := { program := "ytfkojlfbdongpaa", sum := "706b11054603b5ad577d4eab77f1a23a59ba7848ccbeca8edc1058abd8703fdc", func := "intarsia/intarsialaw01.QueueTwice", spec := "queueTwice", unfollowed := true, recurses := true, apart := false, narrowed := true }
def QueueTwiceUptoSaid : Prop := queueTwiceUptoRow.holds Try.pinned (OpenSpec.upto queueTwiceSpec)

/-- 'intarsialaw01.QueueLines', WHERE WHAT IT READS IS OF BULK AT MOST 1048576: true; the input reads as it did. -/
def queueLinesUptoRow : OpenClaim := { program := "ytfkojlfbdongpaa", sum := "706b11054603b5ad577d4eab77f1a23a59ba7848ccbeca8edc1058abd8703fdc", func := "intarsia/intarsialaw01.QueueLines", spec := "queueLines", inPlace := ["internal/bytealg.IndexByteString"], unfollowed := true, recurses := true, apart := false, narrowed := true }
def QueueLinesUptoSaid : Prop := queueLinesUptoRow.holds Try.pinned (OpenSpec.upto queueLinesSpec)

/-- 'intarsialaw01.QueueCalls', WHERE WHAT IT READS IS OF BULK AT MOST 1048576: true; the input reads as it did. -/
def queueCallsUptoRow : OpenClaim := { program := "ytfkojlfbdongpaa", sum := "706b11054603b5ad577d4eab77f1a23a59ba7848ccbeca8edc1058abd8703fdc", func := "intarsia/intarsialaw01.QueueCalls", spec := "queueCalls", inPlace := ["internal/bytealg.IndexByteString"], unfollowed := true, recurses := true, apart := false, narrowed := true }
def QueueCallsUptoSaid : Prop := queueCallsUptoRow.holds Try.pinned (OpenSpec.upto queueCallsSpec)

end Rows
end Go.Proofs.Ytfkojlfbdongpaa
