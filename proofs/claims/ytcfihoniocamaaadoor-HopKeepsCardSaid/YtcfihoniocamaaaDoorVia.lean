/- Contracts that hold from any later world. -/
import Derived.Test.YtcfihoniocamaaaDoorStrs
namespace Go.Proofs.YtcfihoniocamaaaDoor
open Go.RowKit
set_option linter.unusedVariables false

/-- A call that leaves what lay in w, from any world that did. -/
abbrev Via (w : World) (f : Nat) (args : Array Value) (v : Value) : Prop := ∀ W, Below w.heap.size w W → Calls Tryd.prog f args W fun e w' => e = .returned v ∧ Below w.heap.size w w'
theorem via_of {w : World} {f : Nat} {args : Array Value} {v : Value} (h : ∀ W, Calls Tryd.prog f args W fun e w' => e = .returned v ∧ Below W.heap.size W w') : Via w f args v :=
  fun W hb => (h W).mono fun e w' h' => ⟨h'.1, hb.trans (h'.2.mono hb.size)⟩
theorem via_of' {w : World} {f : Nat} {args : Array Value} {v : Value} (h : ∀ W, Below w.heap.size w W → Calls Tryd.prog f args W fun e w' => e = .returned v ∧ Below W.heap.size W w') : Via w f args v :=
  fun W hb => (h W hb).mono fun e w' h' => ⟨h'.1, hb.trans (h'.2.mono hb.size)⟩
theorem via_same {w : World} {f : Nat} {args : Array Value} {v : Value} (h : ∀ W, Calls Tryd.prog f args W fun e w' => e = .returned v ∧ w' = W) : Via w f args v :=
  fun W hb => (h W).mono fun e w' h' => ⟨h'.1, h'.2 ▸ hb⟩
end Go.Proofs.YtcfihoniocamaaaDoor
