/- Ranging over a text's code points, at any world. -/
import Derived.Test.YtpglgembgpoeiaaDoorRuneMath
import Derived.Laws.RangeString
namespace Go.Proofs.YtpglgembgpoeiaaDoor
open Go.RowKit
set_option linter.unusedVariables false

/-- The iterator moved on. -/
def World.setIter (w : World) (b : Nat) (s : ByteArray) (pos : Nat) : World := { w with heap := w.heap.setIfInBounds b (.stringIter s pos) }

theorem run_next_at {P : Program} (W : World) (b : Nat) (s : ByteArray) (pos c wd : Nat) (ty : TypeId) (hW : W.heap[b]? = some (.stringIter s pos)) (h : pos < s.size) (hd : Utf8.decode s pos = (c, wd)) :
    (Instr.next (.pointer (some ⟨b, 0, none⟩)) true ty).run P W = .ok (.tuple #[.bool true, .int .i64 pos, .int .i32 c]) (World.setIter W b s (pos + wd)) := by
  simp only [Instr.next, getObj, setObj, Sem.run_bind, Sem.run, hW, Result.andThen, h, if_true, hd]
  simp [goInt, World.setIter]
theorem run_next_over {P : Program} (W : World) (b : Nat) (s : ByteArray) (pos : Nat) (ty : TypeId) (hW : W.heap[b]? = some (.stringIter s pos)) (h : ¬ pos < s.size) :
    (Instr.next (.pointer (some ⟨b, 0, none⟩)) true ty).run P W = .ok (.tuple #[.bool false]) W := by
  simp [Instr.next, getObj, Sem.run, hW, h]
theorem setIter_at {W : World} {b : Nat} {s : ByteArray} {pos pos' : Nat} (hW : W.heap[b]? = some (.stringIter s pos)) : (World.setIter W b s pos').heap[b]? = some (.stringIter s pos') := by
  have hb : b < W.heap.size := (Array.getElem?_eq_some_iff.1 hW).1
  simp [World.setIter, hb]
theorem setIter_below {B : Nat} {w W : World} {b : Nat} (s : ByteArray) (pos : Nat) (h : Below B w W) (hb : B ≤ b) : Below B w (World.setIter W b s pos) :=
  h.trans ⟨rfl, rfl, rfl, by simp [World.setIter], fun k hk => by
    show (W.heap.setIfInBounds b _)[k]? = _
    rw [Array.getElem?_setIfInBounds_ne (by omega)]⟩
theorem iter_below {B : Nat} {w W : World} (s : ByteArray) (pos : Nat) (h : Below B w W) (hB : B ≤ W.heap.size) : Below B w (W.iter s pos) := h.alloc hB _
/-- Where an iterator stands. -/
def iterPos (w : World) (b : Nat) : Nat := match w.heap[b]? with | some (.stringIter _ p) => p | _ => 0
theorem iterPos_at {w : World} {b : Nat} {s : ByteArray} {p : Nat} (h : w.heap[b]? = some (.stringIter s p)) : iterPos w b = p := by unfold iterPos; rw [h]
end Go.Proofs.YtpglgembgpoeiaaDoor
