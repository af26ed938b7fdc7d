/- Regions in a round of a range over a function: what holds of a region anywhere holds of it there. -/
import Derived.Test.YtcfihoniocamaaaGreatDoorBase
import Derived.RangeFuncNested
import Derived.RangeFuncBound
import Derived.RangeFuncCalls
import Derived.RangeFuncLeaves
import Derived.OrdersIn
import Derived.OwnWalkIn
namespace Go.Proofs.YtcfihoniocamaaaGreatDoor
open Go.RowKit
set_option linter.unusedVariables false

@[go_sem] theorem wide_fn (k : FuncId) : Fence.wide.fn k := trivial
@[go_sem] theorem wide_depth : Fence.wide.depth = none := rfl

abbrev RF (l : Nat) : Fence := Fence.wide.inRound l

theorem rows_wide {n : Nat} {P : Program} {row : String} {args : Array Value} {w : World} {R : Value → World → Prop} (h : Rows P row args w R) : RowsIn Fence.wide n P row args w R :=
  fun c cs _ => let ⟨v, w', r, s⟩ := h c cs; ⟨v, w', r, stepsIn_wide.2 s⟩
theorem rows_round {n l : Nat} {P : Program} {row : String} {args : Array Value} {w : World} {R : Value → World → Prop} (h : Rows P row args w R) : RowsIn (RF l) n P row args w R := rows_wide h
theorem calls_round {n l : Nat} {P : Program} {f : FuncId} {args : Array Value} {w : World} {R : Ending → World → Prop} (h : Calls P f args w R) : CallsIn (RF l) n P f args w R := CallsIn.inRound l (callsIn_wide.2 h)

theorem op_round {n l : Nat} {P : Program} {o : Oper} {a : Act} {w : World} {K : Act → World → Prop} {Q : Exit → Act → World → Prop} (hd : ∀ c, o.op ≠ .defer c) (h : o.wp P a w K Q) : o.wpIn (RF l) n P a w K Q := by
  refine ⟨fun _ _ => trivial, ?_⟩
  show o.uponIn (RF l) n P a K Q ((o.semAt (some l) a.eval).run P w)
  rw [Oper.semAt_some l _ _ hd]
  unfold Oper.wp at h
  generalize (execOp a.eval o).run P w = r at *
  have hno : (RF l).depth.isSome = true → 1 ≤ n := fun e => by cases e
  cases r with
  | ok x w' =>
    cases x with
    | value v => exact h
    | skip => exact h
    | defer d => exact h
    | enter f args => exact ⟨hno, calls_round h⟩
    | row row args => exact ⟨hno, rows_round h⟩
    | round l f t a b => exact False.elim h
    | _ => exact False.elim h
  | halt x w' => cases x <;> first | exact h | exact False.elim h

def noDefer (ops : Array Oper) : Bool := ops.toList.all fun o => match o.op with | .defer _ => false | _ => true
theorem noDefer_at {ops : Array Oper} (h : noDefer ops = true) {i : Nat} {o : Oper} (ho : ops[i]? = some o) : ∀ c, o.op ≠ .defer c := by
  intro c hc
  unfold noDefer at h
  rw [List.all_eq_true] at h
  have := h o (by rw [← Array.getElem?_toList] at ho; exact List.mem_of_getElem? ho)
  rw [hc] at this
  cases this
theorem wpOp_round {n l : Nat} {P : Program} {ops : Array Oper} {Q : Exit → Act → World → Prop} {i : Nat} {K K' : Act → World → Prop} {a : Act} {w : World} (hd : noDefer ops = true) (hQ : ∀ a w, ¬ Q .outgrown a w) (hK : ∀ a w, K a w → K' a w) (h : wpOp P ops Q i K a w) : wpOpIn (RF l) n P ops Q i K' a w := by
  unfold wpOp at h
  unfold wpOpIn
  split at h
  · rename_i e; rw [e]; exact hK _ _ h
  · rename_i o e
    rw [e]
    simp only
    split at h
    · rename_i hw; rw [if_pos hw]; exact Oper.wpIn_mono hK (op_round (noDefer_at hd e) (h.elim id fun h' => by obtain ⟨a, w, hq⟩ := h'.2; exact absurd hq (hQ a w)))
    · rename_i hw; rw [if_neg hw]; exact ⟨fun _ _ => trivial, hK _ _ h⟩
theorem wpAny_round {n l : Nat} {P : Program} {md : Region.Mode} {ops : Array Oper} {Q : Exit → Act → World → Prop} (hd : noDefer ops = true) (hQ : ∀ a w, ¬ Q .outgrown a w) : ∀ (fuel : Nat) (listed : Array Bool) (a : Act) (w : World), wpAny P md ops Q fuel listed a w → wpAnyIn (RF l) n P md ops Q fuel listed a w := by
  intro fuel
  induction fuel with
  | zero => intro listed a w h; exact h
  | succ fuel ih => intro listed a w h; exact ⟨h.1, fun i hi => wpOp_round hd hQ (fun a w => ih _ a w) (h.2 i hi)⟩
/-- A region that draws, in a round. -/
theorem wpIn_region_any_round {n l : Nat} {P : Program} {id : Nat} {ops : Array Oper} {Q : Exit → Act → World → Prop} {a : Act} {w : World} (hm : P.follows .mixedOrders = true) (hd : noDefer ops = true) (hQ : ∀ a w, ¬ Q .outgrown a w)
    (h : wpAny P .any ops Q ops.size (Array.replicate ops.size false) a { w with drawn := w.drawn + 1 }) : (Code.region id ops true).wpIn (RF l) n P Q a w :=
  wpIn_region_any hm (wpAny_round hd hQ _ _ _ _ h)
end Go.Proofs.YtcfihoniocamaaaGreatDoor
