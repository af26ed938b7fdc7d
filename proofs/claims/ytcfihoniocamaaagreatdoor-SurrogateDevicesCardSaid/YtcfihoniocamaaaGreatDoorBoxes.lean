/- Boxed variables: what leaves them as they lay. -/
import Derived.Test.YtcfihoniocamaaaGreatDoorBase
import Derived.RangeFuncBox
import Derived.RangeFuncNested
namespace Go.Proofs.YtcfihoniocamaaaGreatDoor
open Go.RowKit
set_option linter.unusedVariables false
theorem box_under {W W' : World} {B : Nat} {t : TypeId} {v : Value} (h : Boxed W B t v) (hb : Below W.heap.size W W') : Boxed W' B t v := (hb.block B h.lt).trans h
theorem KeepsOthers.of_below {W W' : World} (h : Below W.heap.size W W') : KeepsOthers W W' :=
  ⟨h.size, fun k o hk _ => (h.block k (Array.getElem?_eq_some_iff.1 hk).1).trans hk⟩
theorem box_unset {W : World} {B B' : Nat} {t : TypeId} {v : Value} (h : Boxed W B t v) (x : Value) (hne : B ≠ B') : Boxed (W.setCell ⟨B', 0, none⟩ x) B t v :=
  h.kept (grownBy_setCell' W B' x) (by simp [hne])
theorem box_turn {W W' : World} {B : Nat} {t : TypeId} {v : Value} (h : Boxed W B t v) {row : Option Nat} (hg : W.grownBy W' row) (hr : ∀ r, row = some r → ∃ o : Obj, W.heap[r]? = some o ∧ o.isCells = false) : Boxed W' B t v :=
  h.kept hg (fun e => by
    obtain ⟨o, ho, hc⟩ := hr B e.symm
    rw [show W.heap[B]? = _ from h] at ho; cases ho; cases hc)
end Go.Proofs.YtcfihoniocamaaaGreatDoor
