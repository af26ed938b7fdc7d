/- A text's code points, seen from its bytes: where a byte is not ASCII, neither is the code point, nor any byte of it. -/
import Derived.Test.YtpglgembgpoeiaaDoorStr
namespace Go.Proofs.YtpglgembgpoeiaaDoor
open Go.RowKit
set_option linter.unusedVariables false

theorem get_bang (l : List UInt8) (k : Nat) (h : k < l.length) : ((S l).get! k).toNat = (l[k]).toNat := by
  have : k < (S l).size := by rw [S_size]; exact h
  show ((S l).data[k]!).toNat = _
  unfold S
  simp [h]

theorem decode_high (l : List UInt8) (i : Nat) (h : i < l.length) (hb : 128 ≤ (l[i]).toNat) :
    ∃ c wd : Nat, Utf8.decode (S l) i = (c, wd) ∧ 128 ≤ c ∧ Utf8.valid c = true ∧ 1 ≤ wd ∧ i + wd ≤ l.length ∧ ∀ k (hk : i + k < l.length), k < wd → 128 ≤ (l[i + k]).toNat := by
  have one : ∃ c wd : Nat, ((Utf8.runeError, 1) : Nat × Nat) = (c, wd) ∧ 128 ≤ c ∧ Utf8.valid c = true ∧ 1 ≤ wd ∧ i + wd ≤ l.length ∧ ∀ k (hk : i + k < l.length), k < wd → 128 ≤ (l[i + k]).toNat :=
    ⟨_, _, rfl, by decide, by decide, by decide, by omega, fun k hk hk1 => by obtain rfl : k = 0 := by omega
                                                                              exact hb⟩
  have g0 : ((S l).get! (i + 0)).toNat = (l[i]).toNat := get_bang l i h
  have cont : ∀ k, (decide (i + k < (S l).size) && ((S l).get! (i + k)).toNat / 64 == 2) = true → ∃ hk : i + k < l.length, 128 ≤ (l[i + k]).toNat := by
    intro k hk
    simp only [Bool.and_eq_true, decide_eq_true_eq, beq_iff_eq, S_size] at hk
    refine ⟨hk.1, ?_⟩
    rw [get_bang l _ hk.1] at hk
    omega
  unfold Utf8.decode
  simp only [g0]
  rw [if_neg (by omega)]
  split
  · rename_i h1
    simp only [Bool.and_eq_true] at h1
    obtain ⟨hk1, hc1⟩ := cont 1 (by simpa using h1.2)
    split
    · rename_i h2
      refine ⟨_, 2, rfl, h2, ?_, by decide, by omega, fun k hk hk2 => ?_⟩
      · unfold Utf8.valid
        simp only [Bool.or_eq_true, Bool.and_eq_true, decide_eq_true_eq]
        left
        omega
      · rcases (by omega : k = 0 ∨ k = 1) with rfl | rfl
        · exact hb
        · exact hc1
    · exact one
  split
  · rename_i h1
    simp only [Bool.and_eq_true] at h1
    obtain ⟨hk1, hc1⟩ := cont 1 (by simpa using h1.1.2)
    obtain ⟨hk2, hc2⟩ := cont 2 (by simpa using h1.2)
    split
    · rename_i h2
      simp only [Bool.and_eq_true, decide_eq_true_eq] at h2
      refine ⟨_, 3, rfl, by omega, h2.2, by decide, by omega, fun k hk hk3 => ?_⟩
      rcases (by omega : k = 0 ∨ k = 1 ∨ k = 2) with rfl | rfl | rfl
      · exact hb
      · exact hc1
      · exact hc2
    · exact one
  split
  · rename_i h1
    simp only [Bool.and_eq_true] at h1
    obtain ⟨hk1, hc1⟩ := cont 1 (by simpa using h1.1.1.2)
    obtain ⟨hk2, hc2⟩ := cont 2 (by simpa using h1.1.2)
    obtain ⟨hk3, hc3⟩ := cont 3 (by simpa using h1.2)
    split
    · rename_i h2
      simp only [Bool.and_eq_true, decide_eq_true_eq] at h2
      refine ⟨_, 4, rfl, by omega, h2.2, by decide, by omega, fun k hk hk4 => ?_⟩
      rcases (by omega : k = 0 ∨ k = 1 ∨ k = 2 ∨ k = 3) with rfl | rfl | rfl | rfl
      · exact hb
      · exact hc1
      · exact hc2
      · exact hc3
    · exact one
  · exact one

/-- A code point that is not ASCII, written: two bytes or more, the last of them not ASCII. -/
theorem encode_high (c : Nat) (h : 128 ≤ c) (hv : Utf8.valid c = true) : ∃ l : List UInt8, Utf8.encode (c : Int) = S l ∧ 2 ≤ l.length ∧ l.length ≤ 4 ∧ ∀ k (hk : k < l.length), k + 1 = l.length → 128 ≤ (l[k]).toNat := by
  unfold Utf8.encode
  rw [if_pos hv]
  simp only [Int.toNat_natCast]
  rw [if_neg (by omega)]
  have hcont : ∀ n : Nat, 128 ≤ (UInt8.ofNat (128 + n % 64)).toNat := fun n => by
    rw [UInt8.toNat_ofNat']; omega
  split
  · exact ⟨[_, _], rfl, by simp, by simp, fun k hk hk1 => by
      obtain rfl : k = 1 := by simp at hk1; omega
      exact hcont c⟩
  split
  · exact ⟨[_, _, _], rfl, by simp, by simp, fun k hk hk1 => by
      obtain rfl : k = 2 := by simp at hk1; omega
      exact hcont c⟩
  · exact ⟨[_, _, _, _], rfl, by simp, by simp, fun k hk hk1 => by
      obtain rfl : k = 3 := by simp at hk1; omega
      exact hcont c⟩
end Go.Proofs.YtpglgembgpoeiaaDoor
