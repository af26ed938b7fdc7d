/- Contracts that hold from any later world. -/
import Derived.Test.YtenflcaalckdfaaGreatDoorVv4
namespace Go.Proofs.YtenflcaalckdfaaGreatDoor
open Go.RowKit
set_option linter.unusedVariables false

abbrev Via (w : World) (f : Nat) (args : Array Value) (v : Value) : Prop := ∀ W, Below w.heap.size w W → Calls Tryz.prog f args W fun e w' => e = .returned v ∧ Below w.heap.size w w'
theorem via_of {w : World} {f : Nat} {args : Array Value} {v : Value} (h : ∀ W, Calls Tryz.prog f args W fun e w' => e = .returned v ∧ Below W.heap.size W w') : Via w f args v :=
  fun W hb => (h W).mono fun e w' h' => ⟨h'.1, hb.trans (h'.2.mono hb.size)⟩
theorem via_of' {w : World} {f : Nat} {args : Array Value} {v : Value} (h : ∀ W, Below w.heap.size w W → Calls Tryz.prog f args W fun e w' => e = .returned v ∧ Below W.heap.size W w') : Via w f args v :=
  fun W hb => (h W hb).mono fun e w' h' => ⟨h'.1, hb.trans (h'.2.mono hb.size)⟩
theorem via_same {w : World} {f : Nat} {args : Array Value} {v : Value} (h : ∀ W, Calls Tryz.prog f args W fun e w' => e = .returned v ∧ w' = W) : Via w f args v :=
  fun W hb => (h W).mono fun e w' h' => ⟨h'.1, h'.2 ▸ hb⟩
end Go.Proofs.YtenflcaalckdfaaGreatDoor
