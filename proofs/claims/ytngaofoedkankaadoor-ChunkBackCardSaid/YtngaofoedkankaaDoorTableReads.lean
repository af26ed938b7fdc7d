/- Rows of texts that are read. -/
import Derived.Test.YtngaofoedkankaaDoorOwnRow
namespace Go.Proofs.YtngaofoedkankaaDoor
open Go.RowKit
set_option linter.unusedVariables false

/-- The slice v reads as these texts. -/
def Reads (W : World) (v : Value) (L : List (List UInt8)) : Prop :=
  ∃ ao cap, v = .slice ao L.length cap ∧ L.length ≤ cap ∧ cap ≤ maxLen ∧ (0 < L.length → ∃ b off, ao = some ⟨b, off, none⟩ ∧ b < W.heap.size ∧ ∀ j (h : j < L.length), W.cell? ⟨b, off + j, none⟩ = some (.string (S L[j])))
theorem Owns.reads {W : World} {B : Nat} {v : Value} {L : List (List UInt8)} (h : Owns W B v L) : Reads W v L := by
  obtain ⟨ao, cap, h1, h2, h3, h4, h5⟩ := h.shape
  refine ⟨ao, cap, h1, h2, h3, fun h0 => ?_⟩
  obtain ⟨g, cap', e1, e2, e3, e4, e5⟩ := h.at 0 h0
  rw [h1] at e1
  injection e1 with e6 e7 e8
  exact ⟨g, 0, e6, e4, fun j hj => by rw [Nat.zero_add]; exact e5 j hj⟩
theorem Reads.below {W W' : World} {v : Value} {L : List (List UInt8)} (h : Reads W v L) (hb : Below W.heap.size W W') : Reads W' v L := by
  obtain ⟨ao, cap, h1, h2, h3, h4⟩ := h
  refine ⟨ao, cap, h1, h2, h3, fun h0 => ?_⟩
  obtain ⟨b, off, e1, e2, e3⟩ := h4 h0
  exact ⟨b, off, e1, Nat.lt_of_lt_of_le e2 hb.size, fun j hj => by rw [hb.cell (p := ⟨b, off + j, none⟩) e2]; exact e3 j hj⟩

theorem ownsMade (W : World) (B : Nat) (hB : B ≤ W.heap.size) : Owns (W.alloc (.cells #[] 9)) B (.slice (some ⟨W.heap.size, 0, none⟩) 0 0) [] := Owns.made W B hB
end Go.Proofs.YtngaofoedkankaaDoor
