/- What a reference tells, seen from an address: in plain words. A text's code points, seen from its bytes: where a byte is not ASCII, neither is the code point, nor any byte of it. -/
import Derived.Test.YtgjemgilanhdiaaDoorRt12
import Derived.Test.YtgjemgilanhdiaaDoorRt1
namespace Go.Proofs.YtgjemgilanhdiaaDoor
open Go.RowKit
set_option linter.unusedVariables false

theorem cFuel_len (n : Nat) : ∀ (p out : List UInt8), (cFuel n p out).length ≤ p.length + out.length := by
  induction n with
  | zero => intro p out; show out.length ≤ _; omega
  | succ n ih =>
    intro p out
    unfold cFuel
    split
    · omega
    · rename_i h
      exact Nat.le_trans (ih _ _) (cStep_out p out h)
theorem cleanL_len (p : List UInt8) : (cleanL p).length ≤ p.length := by
  have := cFuel_len p.length p []
  rw [List.length_nil, Nat.add_zero] at this
  exact this

/-- No address at all. -/
def UU.nil : UU := ⟨false, [], 0, [], false, []⟩
/-- The path that is told. -/
def resPath (b u : UU) : List UInt8 := if u.p = [] then b.p else if bAt u.p 0 = 47 then cleanL u.p else cleanL (b.p.take (lastL b.p 47 + 1).toNat ++ u.p)
def resOut (b u : UU) : UU :=
  ⟨true, if u.a then u.h else b.h, if u.a then u.n else b.n, resPath b u, if u.p = [] ∧ u.q = false then b.q else u.q, if u.p = [] ∧ u.q = false then b.y else u.y⟩
def resolve (b u : UU) : UU × Int := if b.ok && u.ok && b.a then (if (resOut b u).ok then (resOut b u, 0) else (UU.nil, 2)) else (UU.nil, 1)

theorem resPath_len (b u : UU) (hb : b.small) (hu : u.small) : (resPath b u).length ≤ 1040 := by
  obtain ⟨h1, h2, h3⟩ := hb
  obtain ⟨h4, h5, h6⟩ := hu
  unfold resPath
  split
  · omega
  · split
    · have := cleanL_len u.p; omega
    · have := cleanL_len (b.p.take (lastL b.p 47 + 1).toNat ++ u.p)
      rw [List.length_append, List.length_take] at this
      omega
/-- Short enough for the walks. -/
def UU.mid (u : UU) : Prop := u.h.length ≤ 1000000 ∧ u.p.length ≤ 1000000 ∧ u.y.length ≤ 1000000
theorem UU.small.mid {u : UU} (h : u.small) : u.mid := by obtain ⟨a, b, c⟩ := h; exact ⟨by omega, by omega, by omega⟩
theorem resOut_mid (b u : UU) (hb : b.small) (hu : u.small) : (resOut b u).mid := by
  have h0 := resPath_len b u hb hu
  obtain ⟨h1, h2, h3⟩ := hb
  obtain ⟨h4, h5, h6⟩ := hu
  refine ⟨?_, ?_, ?_⟩
  · show (if u.a then u.h else b.h).length ≤ _
    split <;> omega
  · show (resPath b u).length ≤ _; omega
  · show (if u.p = [] ∧ u.q = false then b.y else u.y).length ≤ _
    split <;> omega

theorem rightC (u : UU) (hu : u.mid) {W w : World} (hL : Laid w) (hb : Below w.heap.size w W) : Calls Tryd.prog 37 #[u.v] W fun e w' => e = .returned (.bool u.ok) ∧ Below W.heap.size W w' :=
  uriRight u.a u.h u.n u.p u.q u.y hu.1 hu.2.1 hu.2.2 W (hL.on hb)
theorem refRightC (u : UU) (hu : u.mid) {W w : World} (hL : Laid w) (hb : Below w.heap.size w W) : Calls Tryd.prog 11 #[u.v] W fun e w' => e = .returned (.bool u.ok) ∧ Below W.heap.size W w' :=
  refUriRight u.a u.h u.n u.p u.q u.y hu.1 hu.2.1 hu.2.2 W (hL.on hb)
end Go.Proofs.YtgjemgilanhdiaaDoor
namespace Go.Proofs.YtgjemgilanhdiaaDoor
open Go.RowKit
set_option linter.unusedVariables false

theorem get_bang (l : List UInt8) (k : Nat) (h : k < l.length) : ((S l).get! k).toNat = (l[k]).toNat := by
  have : k < (S l).size := by rw [S_size]; exact h
  show ((S l).data[k]!).toNat = _
  unfold S
  simp [h]

theorem decode_high (l : List UInt8) (i : Nat) (h : i < l.length) (hb : 128 ≤ (l[i]).toNat) :
    ∃ c wd : Nat, Utf8.decode (S l) i = (c, wd) ∧ 128 ≤ c ∧ Utf8.valid c = true ∧ 1 ≤ wd ∧ i + wd ≤ l.length ∧ ∀ k (hk : i + k < l.length), k < wd → 128 ≤ (l[i + k]).toNat := by
  have one : ∃ c wd : Nat, ((Utf8.runeError, 1) : Nat × Nat) = (c, wd) ∧ 128 ≤ c ∧ Utf8.valid c = true ∧ 1 ≤ wd ∧ i + wd ≤ l.length ∧ ∀ k (hk : i + k < l.length), k < wd → 128 ≤ (l[i + k]).toNat :=
    ⟨_, _, rfl, by decide, by decide, by decide, by omega, fun k hk hk1 => by obtain rfl : k = 0 := by omega
                                                                              exact hb⟩
  have g0 : ((S l).get! (i + 0)).toNat = (l[i]).toNat := get_bang l i h
  have cont : ∀ k, (decide (i + k < (S l).size) && ((S l).get! (i + k)).toNat / 64 == 2) = true → ∃ hk : i + k < l.length, 128 ≤ (l[i + k]).toNat := by
    intro k hk
    simp only [Bool.and_eq_true, decide_eq_true_eq, beq_iff_eq, S_size] at hk
    refine ⟨hk.1, ?_⟩
    rw [get_bang l _ hk.1] at hk
    omega
  unfold Utf8.decode
  simp only [g0]
  rw [if_neg (by omega)]
  split
  · rename_i h1
    simp only [Bool.and_eq_true] at h1
    obtain ⟨hk1, hc1⟩ := cont 1 (by simpa using h1.2)
    split
    · rename_i h2
      refine ⟨_, 2, rfl, h2, ?_, by decide, by omega, fun k hk hk2 => ?_⟩
      · unfold Utf8.valid
        simp only [Bool.or_eq_true, Bool.and_eq_true, decide_eq_true_eq]
        left
        omega
      · rcases (by omega : k = 0 ∨ k = 1) with rfl | rfl
        · exact hb
        · exact hc1
    · exact one
  split
  · rename_i h1
    simp only [Bool.and_eq_true] at h1
    obtain ⟨hk1, hc1⟩ := cont 1 (by simpa using h1.1.2)
    obtain ⟨hk2, hc2⟩ := cont 2 (by simpa using h1.2)
    split
    · rename_i h2
      simp only [Bool.and_eq_true, decide_eq_true_eq] at h2
      refine ⟨_, 3, rfl, by omega, h2.2, by decide, by omega, fun k hk hk3 => ?_⟩
      rcases (by omega : k = 0 ∨ k = 1 ∨ k = 2) with rfl | rfl | rfl
      · exact hb
      · exact hc1
      · exact hc2
    · exact one
  split
  · rename_i h1
    simp only [Bool.and_eq_true] at h1
    obtain ⟨hk1, hc1⟩ := cont 1 (by simpa using h1.1.1.2)
    obtain ⟨hk2, hc2⟩ := cont 2 (by simpa using h1.1.2)
    obtain ⟨hk3, hc3⟩ := cont 3 (by simpa using h1.2)
    split
    · rename_i h2
      simp only [Bool.and_eq_true, decide_eq_true_eq] at h2
      refine ⟨_, 4, rfl, by omega, h2.2, by decide, by omega, fun k hk hk4 => ?_⟩
      rcases (by omega : k = 0 ∨ k = 1 ∨ k = 2 ∨ k = 3) with rfl | rfl | rfl | rfl
      · exact hb
      · exact hc1
      · exact hc2
      · exact hc3
    · exact one
  · exact one

/-- A code point that is not ASCII, written: two bytes or more, the last of them not ASCII. -/
theorem encode_high (c : Nat) (h : 128 ≤ c) (hv : Utf8.valid c = true) : ∃ l : List UInt8, Utf8.encode (c : Int) = S l ∧ 2 ≤ l.length ∧ l.length ≤ 4 ∧ ∀ k (hk : k < l.length), k + 1 = l.length → 128 ≤ (l[k]).toNat := by
  unfold Utf8.encode
  rw [if_pos hv]
  simp only [Int.toNat_natCast]
  rw [if_neg (by omega)]
  have hcont : ∀ n : Nat, 128 ≤ (UInt8.ofNat (128 + n % 64)).toNat := fun n => by
    rw [UInt8.toNat_ofNat']; omega
  split
  · exact ⟨[_, _], rfl, by simp, by simp, fun k hk hk1 => by
      obtain rfl : k = 1 := by simp at hk1; omega
      exact hcont c⟩
  split
  · exact ⟨[_, _, _], rfl, by simp, by simp, fun k hk hk1 => by
      obtain rfl : k = 2 := by simp at hk1; omega
      exact hcont c⟩
  · exact ⟨[_, _, _, _], rfl, by simp, by simp, fun k hk hk1 => by
      obtain rfl : k = 3 := by simp at hk1; omega
      exact hcont c⟩
end Go.Proofs.YtgjemgilanhdiaaDoor
