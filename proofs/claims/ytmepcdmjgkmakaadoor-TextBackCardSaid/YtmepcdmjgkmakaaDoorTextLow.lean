/- text.Lower, text.Same; the document's Lower: the walks. -/
import Derived.Test.YtmepcdmjgkmakaaDoorLowMath
import Derived.Test.YtmepcdmjgkmakaaDoorTextRef
import Derived.Laws.IdiomStrings
import Derived.Lib.AppendIntMem
namespace Go.Proofs.YtmepcdmjgkmakaaDoor
open Go.RowKit Go.Sort Go.Shelf
set_option linter.unusedVariables false

/-- A text's bytes laid as a row: what the cells are. -/
theorem bytes_laid (w : World) (l : List UInt8) (c t : Nat) (hc : l.length ≤ c) : ∀ j (h : j < l.length),
    ((w.alloc (.cells (bytesRow (S l) c) t ((bytesRow (S l) c).size, (bytesRow (S l) c).size + 1))).drew).cell? ⟨w.heap.size, j, none⟩ = some (.int .u8 ((l[j].toNat : Nat) : Int)) ∧
    ((w.alloc (.cells (bytesRow (S l) c) t ((bytesRow (S l) c).size, (bytesRow (S l) c).size + 1))).drew).frozen? ⟨w.heap.size, j, none⟩ = false := fun j h => by
  have hs : (S l).data.size = l.length := by simp [S]
  have h1 := bytesRow_at (S l) c j (by rw [hs]; exact h)
  have h2 : j < (bytesRow (S l) c).size := by
    rcases Nat.lt_or_ge j (bytesRow (S l) c).size with h' | h'
    · exact h'
    · rw [Array.getElem?_eq_none h'] at h1; cases h1
  constructor
  · show (w.alloc _).cell? _ = _
    rw [World.cell?_alloc_mark, h1]
    simp [S]
  · show (w.alloc _).frozen? _ = _
    rw [World.frozen?_alloc_mark]
    simp; omega

/-- A row of one byte as a text. -/
theorem conv_one (W : World) (bb : Nat) (c : UInt8) (h : W.cell? ⟨bb, 0, none⟩ = some (.int .u8 (c.toNat : Int))) : (convert 38 9 (.slice (some ⟨bb, 0, none⟩) 1 1)).run Tryd.prog W = .ok (.string (S [c])) W :=
  run_convert_bytes_back (P := Tryd.prog) W 38 9 5 ⟨bb, 0, none⟩ 1 [c] Tryd.underlying38 Tryd.underlying5 Tryd.underlying9 (fun j hj => by
    have : j = 0 := by simp at hj; omega
    subst this
    rw [Lib.add_plain]; simp [h])

end Go.Proofs.YtmepcdmjgkmakaaDoor
