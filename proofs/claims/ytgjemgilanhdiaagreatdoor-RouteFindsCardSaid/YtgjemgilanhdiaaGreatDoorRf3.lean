/- Which bytes, hosts and addresses may be: the plain law. No program in sight. A text's bytes laid as a row. -/
import Derived.Test.YtgjemgilanhdiaaGreatDoorRf2
import Derived.Laws.IdiomStrings
import Derived.Lib.AppendIntMem
namespace Go.Proofs.YtgjemgilanhdiaaGreatDoor
set_option linter.unusedVariables false

def sgnU : List UInt8 := [34, 35, 60, 62, 92, 94, 123, 124, 125, 96]
def sgnU9 : List UInt8 := [34, 35, 60, 62, 92, 94, 123, 124, 125]
def badU (c : UInt8) : Bool := decide (c.toNat ≤ 32) || decide (126 < c.toNat) || decide (0 ≤ Lib.indexByte sgnU c)
def hostB (c : UInt8) : Bool := (decide (97 ≤ c.toNat) && decide (c.toNat ≤ 122)) || (decide (48 ≤ c.toNat) && decide (c.toNat ≤ 57)) || decide (c.toNat = 45) || decide (c.toNat = 46)
def hostAll : List UInt8 := [97, 98, 99, 100, 101, 102, 103, 104, 105, 106, 107, 108, 109, 110, 111, 112, 113, 114, 115, 116, 117, 118, 119, 120, 121, 122, 48, 49, 50, 51, 52, 53, 54, 55, 56, 57, 45, 46]
set_option maxRecDepth 100000 in
theorem host_find (c : UInt8) : decide (Lib.indexByte hostAll c < 0) = !hostB c :=
  all_bytes (p := fun c => decide (Lib.indexByte hostAll c < 0) = !hostB c) (by decide +kernel) c
set_option maxRecDepth 100000 in
theorem bad_find (c : UInt8) : (decide (c.toNat < 33) || decide (126 < c.toNat) || decide (c.toNat = 96) || decide (0 ≤ Lib.indexByte sgnU9 c)) = badU c :=
  all_bytes (p := fun c => (decide (c.toNat < 33) || decide (126 < c.toNat) || decide (c.toNat = 96) || decide (0 ≤ Lib.indexByte sgnU9 c)) = badU c) (by decide +kernel) c
def hostL (l : List UInt8) : Bool := decide (1 ≤ l.length) && decide (l.length ≤ 100) && l.all hostB
def idxFrom (l : List UInt8) (c : UInt8) (i : Nat) : Int := if Lib.indexByte (l.drop i) c = -1 then -1 else i + Lib.indexByte (l.drop i) c
theorem idxFrom_zero (l : List UInt8) (c : UInt8) : idxFrom l c 0 = Lib.indexByte l c := by
  unfold idxFrom
  split
  · rename_i h; rw [List.drop_zero] at h; exact h.symm
  · simp
theorem idxFrom_hit {l : List UInt8} {c : UInt8} {i : Nat} (h : i < l.length) (hc : l[i] = c) : idxFrom l c i = i := by
  unfold idxFrom
  rw [List.drop_eq_getElem_cons h, hc]
  simp [Lib.indexByte]
theorem idxFrom_miss {l : List UInt8} {c : UInt8} {i : Nat} (h : i < l.length) (hc : l[i] ≠ c) : idxFrom l c i = idxFrom l c (i + 1) := by
  unfold idxFrom
  rw [List.drop_eq_getElem_cons h]
  have hge := Lib.indexByte_ge (l.drop (i + 1)) c
  simp only [Lib.indexByte, beq_iff_eq, hc, if_false]
  by_cases he : Lib.indexByte (l.drop (i + 1)) c = -1
  · simp [he]
  · rw [if_neg he, if_neg (by omega), if_neg he]; omega
theorem idxFrom_end (l : List UInt8) (c : UInt8) : idxFrom l c l.length = -1 := by
  unfold idxFrom
  rw [List.drop_length]
  simp [Lib.indexByte]
end Go.Proofs.YtgjemgilanhdiaaGreatDoor
namespace Go.Proofs.YtgjemgilanhdiaaGreatDoor
open Go.RowKit Go.Sort Go.Shelf
set_option linter.unusedVariables false

theorem bytes_laid (w : World) (l : List UInt8) (c t : Nat) (hc : l.length ≤ c) : ∀ j (h : j < l.length),
    ((w.alloc (.cells (bytesRow (S l) c) t ((bytesRow (S l) c).size, (bytesRow (S l) c).size + 1))).drew).cell? ⟨w.heap.size, j, none⟩ = some (.int .u8 ((l[j].toNat : Nat) : Int)) ∧
    ((w.alloc (.cells (bytesRow (S l) c) t ((bytesRow (S l) c).size, (bytesRow (S l) c).size + 1))).drew).frozen? ⟨w.heap.size, j, none⟩ = false := fun j h => by
  have hs : (S l).data.size = l.length := by simp [S]
  have h1 := bytesRow_at (S l) c j (by rw [hs]; exact h)
  have h2 : j < (bytesRow (S l) c).size := by
    rcases Nat.lt_or_ge j (bytesRow (S l) c).size with h' | h'
    · exact h'
    · rw [Array.getElem?_eq_none h'] at h1; cases h1
  constructor
  · show (w.alloc _).cell? _ = _
    rw [World.cell?_alloc_mark, h1]
    simp [S]
  · show (w.alloc _).frozen? _ = _
    rw [World.frozen?_alloc_mark]
    simp; omega
end Go.Proofs.YtgjemgilanhdiaaGreatDoor
