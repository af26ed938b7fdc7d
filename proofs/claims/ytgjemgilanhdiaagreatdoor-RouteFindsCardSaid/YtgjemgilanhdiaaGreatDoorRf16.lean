/- A text's code points, seen from its bytes: where a byte is not ASCII, neither is the code point, nor any byte of it. Ranging over a text's code points, at any world. -/
import Derived.Test.YtgjemgilanhdiaaGreatDoorRf1
import Derived.Laws.RangeString
namespace Go.Proofs.YtgjemgilanhdiaaGreatDoor
open Go.RowKit
set_option linter.unusedVariables false

theorem get_bang (l : List UInt8) (k : Nat) (h : k < l.length) : ((S l).get! k).toNat = (l[k]).toNat := by
  have : k < (S l).size := by rw [S_size]; exact h
  show ((S l).data[k]!).toNat = _
  unfold S
  simp [h]

theorem decode_high (l : List UInt8) (i : Nat) (h : i < l.length) (hb : 128 ≤ (l[i]).toNat) :
    ∃ c wd : Nat, Utf8.decode (S l) i = (c, wd) ∧ 128 ≤ c ∧ Utf8.valid c = true ∧ 1 ≤ wd ∧ i + wd ≤ l.length ∧ ∀ k (hk : i + k < l.length), k < wd → 128 ≤ (l[i + k]).toNat := by
  have one : ∃ c wd : Nat, ((Utf8.runeError, 1) : Nat × Nat) = (c, wd) ∧ 128 ≤ c ∧ Utf8.valid c = true ∧ 1 ≤ wd ∧ i + wd ≤ l.length ∧ ∀ k (hk : i + k < l.length), k < wd → 128 ≤ (l[i + k]).toNat :=
    ⟨_, _, rfl, by decide, by decide, by decide, by omega, fun k hk hk1 => by obtain rfl : k = 0 := by omega
                                                                              exact hb⟩
  have g0 : ((S l).get! (i + 0)).toNat = (l[i]).toNat := get_bang l i h
  have cont : ∀ k, (decide (i + k < (S l).size) && ((S l).get! (i + k)).toNat / 64 == 2) = true → ∃ hk : i + k < l.length, 128 ≤ (l[i + k]).toNat := by
    intro k hk
    simp only [Bool.and_eq_true, decide_eq_true_eq, beq_iff_eq, S_size] at hk
    refine ⟨hk.1, ?_⟩
    rw [get_bang l _ hk.1] at hk
    omega
  unfold Utf8.decode
  simp only [g0]
  rw [if_neg (by omega)]
  split
  · rename_i h1
    simp only [Bool.and_eq_true] at h1
    obtain ⟨hk1, hc1⟩ := cont 1 (by simpa using h1.2)
    split
    · rename_i h2
      refine ⟨_, 2, rfl, h2, ?_, by decide, by omega, fun k hk hk2 => ?_⟩
      · unfold Utf8.valid
        simp only [Bool.or_eq_true, Bool.and_eq_true, decide_eq_true_eq]
        left
        omega
      · rcases (by omega : k = 0 ∨ k = 1) with rfl | rfl
        · exact hb
        · exact hc1
    · exact one
  split
  · rename_i h1
    simp only [Bool.and_eq_true] at h1
    obtain ⟨hk1, hc1⟩ := cont 1 (by simpa using h1.1.2)
    obtain ⟨hk2, hc2⟩ := cont 2 (by simpa using h1.2)
    split
    · rename_i h2
      simp only [Bool.and_eq_true, decide_eq_true_eq] at h2
      refine ⟨_, 3, rfl, by omega, h2.2, by decide, by omega, fun k hk hk3 => ?_⟩
      rcases (by omega : k = 0 ∨ k = 1 ∨ k = 2) with rfl | rfl | rfl
      · exact hb
      · exact hc1
      · exact hc2
    · exact one
  split
  · rename_i h1
    simp only [Bool.and_eq_true] at h1
    obtain ⟨hk1, hc1⟩ := cont 1 (by simpa using h1.1.1.2)
    obtain ⟨hk2, hc2⟩ := cont 2 (by simpa using h1.1.2)
    obtain ⟨hk3, hc3⟩ := cont 3 (by simpa using h1.2)
    split
    · rename_i h2
      simp only [Bool.and_eq_true, decide_eq_true_eq] at h2
      refine ⟨_, 4, rfl, by omega, h2.2, by decide, by omega, fun k hk hk4 => ?_⟩
      rcases (by omega : k = 0 ∨ k = 1 ∨ k = 2 ∨ k = 3) with rfl | rfl | rfl | rfl
      · exact hb
      · exact hc1
      · exact hc2
      · exact hc3
    · exact one
  · exact one

theorem encode_high (c : Nat) (h : 128 ≤ c) (hv : Utf8.valid c = true) : ∃ l : List UInt8, Utf8.encode (c : Int) = S l ∧ 2 ≤ l.length ∧ l.length ≤ 4 ∧ ∀ k (hk : k < l.length), k + 1 = l.length → 128 ≤ (l[k]).toNat := by
  unfold Utf8.encode
  rw [if_pos hv]
  simp only [Int.toNat_natCast]
  rw [if_neg (by omega)]
  have hcont : ∀ n : Nat, 128 ≤ (UInt8.ofNat (128 + n % 64)).toNat := fun n => by
    rw [UInt8.toNat_ofNat']; omega
  split
  · exact ⟨[_, _], rfl, by simp, by simp, fun k hk hk1 => by
      obtain rfl : k = 1 := by simp at hk1; omega
      exact hcont c⟩
  split
  · exact ⟨[_, _, _], rfl, by simp, by simp, fun k hk hk1 => by
      obtain rfl : k = 2 := by simp at hk1; omega
      exact hcont c⟩
  · exact ⟨[_, _, _, _], rfl, by simp, by simp, fun k hk hk1 => by
      obtain rfl : k = 3 := by simp at hk1; omega
      exact hcont c⟩
end Go.Proofs.YtgjemgilanhdiaaGreatDoor
namespace Go.Proofs.YtgjemgilanhdiaaGreatDoor
open Go.RowKit
set_option linter.unusedVariables false

def World.setIter (w : World) (b : Nat) (s : ByteArray) (pos : Nat) : World := { w with heap := w.heap.setIfInBounds b (.stringIter s pos) }

theorem run_next_at {P : Program} (W : World) (b : Nat) (s : ByteArray) (pos c wd : Nat) (ty : TypeId) (hW : W.heap[b]? = some (.stringIter s pos)) (h : pos < s.size) (hd : Utf8.decode s pos = (c, wd)) :
    (Instr.next (.pointer (some ⟨b, 0, none⟩)) true ty).run P W = .ok (.tuple #[.bool true, .int .i64 pos, .int .i32 c]) (World.setIter W b s (pos + wd)) := by
  simp only [Instr.next, getObj, setObj, Sem.run_bind, Sem.run, hW, Result.andThen, h, if_true, hd]
  simp [goInt, World.setIter]
theorem run_next_over {P : Program} (W : World) (b : Nat) (s : ByteArray) (pos : Nat) (ty : TypeId) (hW : W.heap[b]? = some (.stringIter s pos)) (h : ¬ pos < s.size) :
    (Instr.next (.pointer (some ⟨b, 0, none⟩)) true ty).run P W = .ok (.tuple #[.bool false]) W := by
  simp [Instr.next, getObj, Sem.run, hW, h]
theorem setIter_at {W : World} {b : Nat} {s : ByteArray} {pos pos' : Nat} (hW : W.heap[b]? = some (.stringIter s pos)) : (World.setIter W b s pos').heap[b]? = some (.stringIter s pos') := by
  have hb : b < W.heap.size := (Array.getElem?_eq_some_iff.1 hW).1
  simp [World.setIter, hb]
theorem setIter_below {B : Nat} {w W : World} {b : Nat} (s : ByteArray) (pos : Nat) (h : Below B w W) (hb : B ≤ b) : Below B w (World.setIter W b s pos) :=
  h.trans ⟨rfl, rfl, rfl, by simp [World.setIter], fun k hk => by
    show (W.heap.setIfInBounds b _)[k]? = _
    rw [Array.getElem?_setIfInBounds_ne (by omega)]⟩
theorem iter_below {B : Nat} {w W : World} (s : ByteArray) (pos : Nat) (h : Below B w W) (hB : B ≤ W.heap.size) : Below B w (W.iter s pos) := h.alloc hB _
def iterPos (w : World) (b : Nat) : Nat := match w.heap[b]? with | some (.stringIter _ p) => p | _ => 0
theorem iterPos_at {w : World} {b : Nat} {s : ByteArray} {p : Nat} (h : w.heap[b]? = some (.stringIter s p)) : iterPos w b = p := by unfold iterPos; rw [h]
end Go.Proofs.YtgjemgilanhdiaaGreatDoor
