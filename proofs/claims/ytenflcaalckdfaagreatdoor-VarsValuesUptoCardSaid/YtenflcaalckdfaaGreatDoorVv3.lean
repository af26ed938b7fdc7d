/- Small letters; the bytes of words: the plain law. No program in sight. Blanks taken off a text's ends: the plain law. No program in sight. -/
import Derived.Test.YtenflcaalckdfaaGreatDoorVv2
namespace Go.Proofs.YtenflcaalckdfaaGreatDoor
set_option linter.unusedVariables false

def lowN (n : Nat) : Nat := if 65 ≤ n ∧ n ≤ 90 then n + 32 else n
def lowB (c : UInt8) : UInt8 := UInt8.ofNat (lowN c.toNat)
def lower (l : List UInt8) : List UInt8 := l.map lowB
theorem lowN_lt {n : Nat} (h : n < 256) : lowN n < 256 := by unfold lowN; split <;> omega
theorem lowB_toNat (c : UInt8) : (lowB c).toNat = lowN c.toNat := by
  unfold lowB
  have := lowN_lt c.toNat_lt
  simp; omega
theorem lowB_great {c : UInt8} (h : 65 ≤ c.toNat ∧ c.toNat ≤ 90) : ((lowB c).toNat : Int) = (c.toNat : Int) + 32 := by
  rw [lowB_toNat]; unfold lowN; rw [if_pos h]; rfl
theorem lowB_other {c : UInt8} (h : ¬ (65 ≤ c.toNat ∧ c.toNat ≤ 90)) : lowB c = c := by
  apply UInt8.toNat.inj; rw [lowB_toNat]; unfold lowN; rw [if_neg h]
theorem lowB_idem (c : UInt8) : lowB (lowB c) = lowB c := by
  apply UInt8.toNat.inj; rw [lowB_toNat, lowB_toNat]; unfold lowN; repeat' split
  all_goals omega
theorem lower_idem (l : List UInt8) : lower (lower l) = lower l := by
  unfold lower; rw [List.map_map]; apply List.map_congr_left; intro c _; exact lowB_idem c
theorem lower_len (l : List UInt8) : (lower l).length = l.length := by simp [lower]

def signs : List UInt8 := [33, 35, 36, 37, 38, 39, 42, 43, 45, 46, 94, 95, 124, 126, 96]
def wordB (c : UInt8) : Bool := (decide (97 ≤ c.toNat) && decide (c.toNat ≤ 122)) || (decide (65 ≤ c.toNat) && decide (c.toNat ≤ 90)) || (decide (48 ≤ c.toNat) && decide (c.toNat ≤ 57)) || signs.contains c
def tokenL (l : List UInt8) : Bool := !l.isEmpty && l.all wordB
theorem all_bytes {p : UInt8 → Prop} (h : ∀ n : Fin 256, p (UInt8.ofNat n.val)) (c : UInt8) : p c := by
  have := h ⟨c.toNat, c.toNat_lt⟩
  simpa using this
set_option maxRecDepth 100000 in
theorem wordB_low (c : UInt8) : wordB (lowB c) = wordB c :=
  all_bytes (p := fun c => wordB (lowB c) = wordB c) (by decide +kernel) c
theorem token_lower (l : List UInt8) : tokenL (lower l) = tokenL l := by
  unfold tokenL lower
  rw [List.all_map]
  congr 1
  · cases l <;> rfl
  · congr 1; funext c; exact wordB_low c
theorem token_append {s t : List UInt8} (h : tokenL s = true) (h' : tokenL t = true) : tokenL (s ++ t) = true := by
  unfold tokenL at *
  simp only [Bool.and_eq_true, List.all_append, Bool.not_eq_true'] at *
  exact ⟨by cases s <;> simp_all, h.2, h'.2⟩
theorem token_dash {s t : List UInt8} (h : tokenL s = true) (h' : tokenL t = true) : tokenL (s ++ 45 :: t) = true := by
  have : tokenL ([45] ++ t) = true := token_append (by decide) h'
  exact token_append h this
end Go.Proofs.YtenflcaalckdfaaGreatDoor
namespace Go.Proofs.YtenflcaalckdfaaGreatDoor
set_option linter.unusedVariables false

def blankB (c : UInt8) : Bool := c == 32 || c == 9
def trimL (l : List UInt8) : List UInt8 := l.dropWhile blankB
def trimR (l : List UInt8) : List UInt8 := (l.reverse.dropWhile blankB).reverse
def trim (l : List UInt8) : List UInt8 := trimL (trimR l)

theorem trimL_nil : trimL [] = [] := rfl
theorem trimR_nil : trimR [] = [] := rfl
theorem trimL_blank {c : UInt8} {l : List UInt8} (h : blankB c = true) : trimL (c :: l) = trimL l := by simp [trimL, h]
theorem trimL_stay {c : UInt8} {l : List UInt8} (h : blankB c = false) : trimL (c :: l) = c :: l := by simp [trimL, h]
theorem trimR_blank {c : UInt8} {l : List UInt8} (h : blankB c = true) : trimR (l ++ [c]) = trimR l := by simp [trimR, h]
theorem trimR_stay {c : UInt8} {l : List UInt8} (h : blankB c = false) : trimR (l ++ [c]) = l ++ [c] := by simp [trimR, h]
theorem trimR_cons (c : UInt8) (l : List UInt8) : trimR (c :: l) = if trimR l = [] ∧ blankB c = true then [] else c :: trimR l := by
  unfold trimR
  rw [List.reverse_cons, List.dropWhile_append]
  by_cases h : l.reverse.dropWhile blankB = []
  · rw [h]
    cases hc : blankB c <;> simp [hc]
  · have h2 : (l.reverse.dropWhile blankB).isEmpty = false := by
      cases hx : l.reverse.dropWhile blankB with
      | nil => exact absurd hx h
      | cons a t => rfl
    simp [h, h2]
theorem trim_swap (l : List UInt8) : trimR (trimL l) = trimL (trimR l) := by
  induction l with
  | nil => rfl
  | cons c l ih =>
    cases hc : blankB c with
    | true =>
      rw [trimL_blank hc, ih, trimR_cons]
      by_cases h : trimR l = []
      · simp [h, hc]
      · rw [if_neg (by simp [h]), trimL_blank hc]
    | false =>
      rw [trimL_stay hc, trimR_cons, if_neg (by simp [hc]), trimL_stay hc]
end Go.Proofs.YtenflcaalckdfaaGreatDoor
