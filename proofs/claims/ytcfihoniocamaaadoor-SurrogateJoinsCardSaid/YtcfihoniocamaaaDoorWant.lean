/- An operation whose guard says yes, taken as one without a guard. -/
import Derived.Test.YtcfihoniocamaaaDoorBase
namespace Go.Proofs.YtcfihoniocamaaaDoor
open Go.RowKit
theorem wpList_want {P : Program} {ops : Array Oper} {Q : Exit → Act → World → Prop} {a : Act} {w : World} {rest : List Oper} {o : Oper}
    (hw : Region.wanted o (yielded ops a.tmps) = true) (h : wpList P ops Q ({ o with guard := none } :: rest) a w) : wpList P ops Q (o :: rest) a w := by
  unfold wpList at h ⊢
  rw [if_pos (show Region.wanted { o with guard := none } (yielded ops a.tmps) = true from rfl)] at h
  rw [if_pos hw]
  exact h
end Go.Proofs.YtcfihoniocamaaaDoor
