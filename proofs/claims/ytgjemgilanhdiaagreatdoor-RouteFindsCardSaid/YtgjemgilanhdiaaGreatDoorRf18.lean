/- What any text is as an address: in plain words. Where the host ends; what stands behind it: plain words. -/
import Derived.Test.YtgjemgilanhdiaaGreatDoorRf11
import Derived.Test.YtgjemgilanhdiaaGreatDoorRf15
import Derived.Test.YtgjemgilanhdiaaGreatDoorRf17
import Derived.Test.YtgjemgilanhdiaaGreatDoorRf7
namespace Go.Proofs.YtgjemgilanhdiaaGreatDoor
open Go.RowKit
set_option linter.unusedVariables false

theorem indexAny_lt (l chars : List UInt8) : Lib.indexAny l chars < (l.length : Int) := by
  induction l with
  | nil => show (-1 : Int) < _; simp
  | cons b l ih =>
    unfold Lib.indexAny
    split
    · simp
    · split
      · simp; omega
      · simp; omega
theorem cut1_len (l : List UInt8) (c : UInt8) : (cut1 l c).1.length ≤ l.length ∧ (cut1 l c).2.1.length ≤ l.length := by
  unfold cut1
  split
  · simp; omega
  · simp
theorem lower_http : lower httpL = httpL := by decide

def httpB (s : List UInt8) : Bool := decide (7 ≤ s.length) && (lower (s.take 7) == httpL)
def endOf (t : List UInt8) : Nat := if Lib.indexAny t [47, 63] < 0 then t.length else (Lib.indexAny t [47, 63]).toNat
def tailOf (t : List UInt8) : List UInt8 := if t.drop (endOf t) = [] ∨ bAt (t.drop (endOf t)) 0 = 63 then 47 :: t.drop (endOf t) else t.drop (endOf t)
def absOf (t : List UInt8) : UU := ⟨true, placeH (t.take (endOf t)), placeN (t.take (endOf t)), (cut1 (tailOf t) 63).1, (cut1 (tailOf t) 63).2.2, (cut1 (tailOf t) 63).2.1⟩
def relOf (s : List UInt8) : UU := ⟨false, [], 0, (cut1 s 63).1, (cut1 s 63).2.2, (cut1 s 63).2.1⟩
def parseL (s : List UInt8) : UU × Int :=
  if 500 < s.length then (UU.nil, 2)
  else if httpB s then (if placeB ((s.drop 7).take (endOf (s.drop 7))) && (absOf (s.drop 7)).ok then (absOf (s.drop 7), 0) else (UU.nil, 20))
  else if (relOf s).ok then (relOf s, 0) else (UU.nil, 20)

theorem endOf_le (t : List UInt8) : endOf t ≤ t.length := by
  unfold endOf
  have := indexAny_lt t [47, 63]
  split <;> omega
theorem tailOf_len (t : List UInt8) : (tailOf t).length ≤ t.length + 1 := by
  unfold tailOf
  split <;> simp <;> omega
theorem placeH_len (s : List UInt8) : (placeH s).length ≤ s.length := by
  unfold placeH
  have := lower_len s
  split
  · omega
  · rw [List.length_take]; omega
theorem absOf_mid (t : List UInt8) (h : t.length ≤ 500) : (absOf t).mid := by
  have h1 := tailOf_len t
  obtain ⟨h2, h3⟩ := cut1_len (tailOf t) 63
  have h4 := placeH_len (t.take (endOf t))
  rw [List.length_take] at h4
  exact ⟨by show (placeH _).length ≤ _; omega, by show (cut1 _ _).1.length ≤ _; omega, by show (cut1 _ _).2.1.length ≤ _; omega⟩
theorem relOf_mid (s : List UInt8) (h : s.length ≤ 500) : (relOf s).mid := by
  obtain ⟨h2, h3⟩ := cut1_len s 63
  exact ⟨by show (0 : Nat) ≤ _; omega, by show (cut1 _ _).1.length ≤ _; omega, by show (cut1 _ _).2.1.length ≤ _; omega⟩
end Go.Proofs.YtgjemgilanhdiaaGreatDoor
namespace Go.Proofs.YtgjemgilanhdiaaGreatDoor
open Go.RowKit
set_option linter.unusedVariables false

theorem indexAny_spec (l : List UInt8) : (Lib.indexAny l [47, 63] = -1 ∧ ∀ k (hk : k < l.length), slashAsk l[k] = false) ∨ ∃ i : Nat, Lib.indexAny l [47, 63] = i ∧ ∃ hi : i < l.length, slashAsk l[i] = true ∧ ∀ k (hk : k < i), slashAsk (l[k]'(by omega)) = false := by
  induction l with
  | nil => exact .inl ⟨rfl, fun k hk => by simp at hk⟩
  | cons b l ih =>
    by_cases hb : slashAsk b = true
    · refine .inr ⟨0, ?_, by simp, hb, fun k hk => by omega⟩
      unfold Lib.indexAny
      show (if slashAsk b = true then _ else _) = _
      rw [if_pos hb]; rfl
    · have hb2 : slashAsk b = false := by simpa using hb
      rcases ih with ⟨h1, h2⟩ | ⟨i, h1, hi, h2, h3⟩
      · refine .inl ⟨?_, fun k hk => ?_⟩
        · unfold Lib.indexAny
          show (if slashAsk b = true then _ else _) = _
          rw [if_neg hb, if_pos (by rw [h1]; rfl)]
        · cases k with
          | zero => exact hb2
          | succ k => exact h2 k (by simpa using hk)
      · refine .inr ⟨i + 1, ?_, by simp; omega, h2, fun k hk => ?_⟩
        · unfold Lib.indexAny
          show (if slashAsk b = true then _ else _) = _
          rw [if_neg hb, if_neg (by rw [h1]; simp), h1]
          simp
        · cases k with
          | zero => exact hb2
          | succ k => exact h3 k (by omega)

theorem ask_no (c : UInt8) (h : slashAsk c = false) : ((c.toNat : Int) != 47) = true ∧ ((c.toNat : Int) != 63) = true := by
  have h := all_bytes (p := fun c => slashAsk c = false → ((c.toNat : Int) != 47) = true ∧ ((c.toNat : Int) != 63) = true) (by decide +kernel) c h
  exact h
theorem ask_yes (c : UInt8) (h : slashAsk c = true) : (c.toNat : Int) = 47 ∨ (c.toNat : Int) = 63 := by
  have h := all_bytes (p := fun c => slashAsk c = true → (c.toNat : Int) = 47 ∨ (c.toNat : Int) = 63) (by decide +kernel) c h
  exact h
theorem endOf_spec (t : List UInt8) : (∀ k, k < endOf t → (bAt t k != 47) = true ∧ (bAt t k != 63) = true) ∧ (endOf t < t.length → bAt t (endOf t) = 47 ∨ bAt t (endOf t) = 63) := by
  unfold endOf
  rcases indexAny_spec t with ⟨h1, h2⟩ | ⟨i, h1, hi, h2, h3⟩
  · rw [h1, if_pos (by omega)]
    exact ⟨fun k hk => by rw [bAt_eq hk]; exact ask_no _ (h2 k hk), fun h => by omega⟩
  · rw [h1, if_neg (by omega), Int.toNat_natCast]
    exact ⟨fun k hk => by rw [bAt_eq (by omega)]; exact ask_no _ (h3 k hk), fun _ => by rw [bAt_eq hi]; exact ask_yes _ h2⟩
theorem tailOf_ref (t : List UInt8) : tailOf t = if Lib.hasPrefix (t.drop (endOf t)) [47] = true then t.drop (endOf t) else 47 :: t.drop (endOf t) := by
  obtain ⟨_, h2⟩ := endOf_spec t
  unfold tailOf
  by_cases h : endOf t < t.length
  · have hc := List.drop_eq_getElem_cons h
    have hb := h2 h
    rw [bAt_eq h] at hb
    have e : bAt (t.drop (endOf t)) 0 = ((t[endOf t]).toNat : Int) := by rw [hc]; rfl
    have hne : ¬ t.drop (endOf t) = [] := by rw [hc]; exact List.cons_ne_nil _ _
    have hp : Lib.hasPrefix (t.drop (endOf t)) [47] = (47 == t[endOf t]) := by rw [hc]; unfold Lib.hasPrefix; simp [List.isPrefixOf]
    rw [hp, e]
    rcases hb with hb | hb
    · have hx : t[endOf t] = 47 := UInt8.toNat.inj (by show (t[endOf t]).toNat = 47; omega)
      rw [if_neg (fun h9 => by rcases h9 with h9 | h9; exact hne h9; omega), if_pos (by rw [hx]; rfl)]
    · have hx : t[endOf t] = 63 := UInt8.toNat.inj (by show (t[endOf t]).toNat = 63; omega)
      rw [if_pos (.inr hb), if_neg (by rw [hx]; decide)]
  · have hn : t.drop (endOf t) = [] := List.drop_of_length_le (by omega)
    rw [hn, if_pos (.inl rfl), if_neg (by decide)]
theorem httpB_ref (s : List UInt8) : Lib.hasPrefix (lower s) httpL = httpB s := by
  have := @hasPrefix_take (lower s) httpL
  rw [Bool.eq_iff_iff, this]
  unfold httpB
  rw [lower_len, show httpL.length = 7 from rfl, ← lower_take]
  simp
theorem neg_port (a : Bool) (h : List UInt8) (p : List UInt8) (q : Bool) (y : List UInt8) : rightU a h (-1) p q y = false := by
  unfold rightU
  simp
end Go.Proofs.YtgjemgilanhdiaaGreatDoor
