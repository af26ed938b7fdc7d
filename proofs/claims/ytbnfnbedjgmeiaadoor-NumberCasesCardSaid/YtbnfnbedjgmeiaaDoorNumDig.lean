/- The document's digits, its signed reading, number.Dec, and the law's known number. -/
import Derived.Test.YtbnfnbedjgmeiaaDoorNumRef
import Derived.Lib.ItoaLen
namespace Go.Proofs.YtbnfnbedjgmeiaaDoor
open Go.RowKit Go.Sort Go.Shelf
set_option linter.unusedVariables false

set_option maxHeartbeats 800000 in
/-- number.Dec. -/
theorem decC (n : Nat) (hn : n < 18446744073709551616) (w : World) (hL : Laid w) : Calls Tryd.prog 10 #[.int .u64 n] w fun e w' => e = .returned (.string (S (Lib.decDigits n))) ∧ Below w.heap.size w w' := by
  have hc : Calls Tryd.prog 24 #[.int .u64 n, .int .i64 10] w fun e w' => e = .returned (.string (S (Lib.decDigits n))) ∧ Below w.heap.size w w' := by
    by_cases h : n < 100
    · exact fmt10_small n h w
    · exact fmt10_big n (by omega) hn w hL
  clear hL
  go_enter Tryd.func10, Tryd.ntmps10
  go_wp2_with (first | (go_at_call 24; refine hc.mono ?_; rintro e w' ⟨rfl, hb⟩) | go_in)
  go_ret
  exact ⟨rfl, by assumption⟩

theorem digits16_at (d : Nat) (h : d < 16) : ([48, 49, 50, 51, 52, 53, 54, 55, 56, 57, 97, 98, 99, 100, 101, 102].take (d + 1)).drop d = [hexDig d] := by
  have : ∀ d : Fin 16, (([48, 49, 50, 51, 52, 53, 54, 55, 56, 57, 97, 98, 99, 100, 101, 102] : List UInt8).take (d.val + 1)).drop d.val = [hexDig d.val] := by decide
  exact this ⟨d, h⟩
theorem decDigits_ten {u : Nat} (h : ¬ u < 10) : Lib.decDigits u = Lib.decDigits (u / 10) ++ [hexDig (u % 10)] := by
  rw [Lib.decDigits, dif_neg h]
  congr 2
  unfold hexDig
  rw [if_pos (by omega)]
theorem decDigits_lt {u : Nat} (h : u < 10) : Lib.decDigits u = [hexDig u] := by
  rw [Lib.decDigits_one h]
  unfold hexDig
  rw [if_pos h]
theorem hexF_len : ∀ f n, (hexF f n).length ≤ f
  | 0, _ => Nat.le_refl _
  | f + 1, n => by
    unfold hexF
    split
    · simp
    · have := hexF_len f (n / 16)
      simp; omega
theorem hexL_len (n : Nat) : (hexL n).length ≤ 16 := hexF_len 16 n

set_option maxHeartbeats 800000 in
set_option maxRecDepth 100000 in
theorem digitsDec (n : Nat) (hn : n < 18446744073709551616) (w : World) : Calls Tryd.prog 15 #[.int .u64 n, .int .u64 10] w fun e w' => e = .returned (.string (S (Lib.decDigits n))) ∧ Below w.heap.size w w' := by
  have hlen : (Lib.decDigits n).length ≤ 20 := by
    first
    | (rw [Lib.decDigits_length]; exact Lib.nDigits_le20 n hn)
    | exact Nat.le_trans (hexL_len n) (by decide)
  have HLEN := Lib.hid hlen
  clear hlen
  go_enter Tryd.func15, Tryd.ntmps15
  go_wp2
  simp only [mk_S]
  go_loopw [0, 5] (fun nv ov wr => ∃ u : Nat, ∃ t : List UInt8, u < 18446744073709551616 ∧ nv = .int .u64 u ∧ ov = .string (S t) ∧ Lib.decDigits n = (if u = 0 ∧ t ≠ [] then [] else Lib.decDigits u) ++ t ∧ Below w.heap.size w wr) (fun nv ov _ => (intOf nv).toNat + (1 - strLen ov))
  case atStart => exact ⟨n, [], hn, rfl, rfl, by simp, by (repeat (first | exact Below.refl _ _ | assumption | refine Below.drew ?_ | refine Below.alloc ?_ (by first | omega | (simp <;> omega)) _ | refine Below.setCell ?_ (by first | omega | (simp <;> omega)) _))⟩
  case round =>
    obtain ⟨u, t, hu, rfl, rfl, hD, hB⟩ := hrel
    have htl : t.length ≤ 20 := by
      have := congrArg List.length hD
      have h2 := HLEN.out
      simp only [List.length_append] at this
      omega
    by_cases hgo : u = 0 ∧ t ≠ []
    · obtain ⟨rfl, ht⟩ := hgo
      have hne : t.isEmpty = false := by
        cases t with
        | nil => exact absurd rfl ht
        | cons a t => rfl
      rw [if_pos ⟨rfl, ht⟩, List.nil_append] at hD
      have HD := Lib.hid hD
      clear hD
      go_wp2
      go_ret
      exact ⟨by rw [HD.out]; rfl, by assumption⟩
    · have hr : u % 10 < 16 := by omega
      have hsl := digits16_at (u % 10) hr
      rw [if_neg hgo] at hD
      have hstep : Lib.decDigits u = (if u / 10 = 0 ∧ hexDig (u % 10) :: t ≠ [] then [] else Lib.decDigits (u / 10)) ++ [hexDig (u % 10)] := by
        by_cases hs : u < 10
        · have e1 : u / 10 = 0 := by omega
          have e2 : u % 10 = u := by omega
          rw [if_pos ⟨e1, by simp⟩, e2, List.nil_append]
          first
          | exact decDigits_lt hs
          | exact hexL_one hs
        · rw [if_neg (by intro h; omega)]
          first
          | exact decDigits_ten hs
          | exact hexL_step (by omega) hu
      have HD := Lib.hid hD
      have HS := Lib.hid hstep
      clear hD hstep
      obtain ⟨r, hrr⟩ : ∃ r, u % 10 = r := ⟨_, rfl⟩
      obtain ⟨q, hqq⟩ : ∃ q, u / 10 = q := ⟨_, rfl⟩
      have hri : (u : Int) % 10 = (r : Int) := by omega
      have hqi : (u : Int) / 10 = (q : Int) := by omega
      rw [hrr] at hr hsl HS
      rw [hqq] at HS
      simp only [List.take_succ_cons] at hsl
      by_cases hu0 : u = 0
      · have ht0 : t = [] := by
          cases t with
          | nil => rfl
          | cons a t => exact absurd ⟨hu0, by simp⟩ hgo
        subst hu0
        subst ht0
        go_wp2_with go_region
        all_goals (try go_wp2)
        all_goals (go_roundw)
        case rel => exact ⟨0, [48], by omega, rfl, rfl, by rw [HD.out, HS.out, ← hqq, ← hrr]; simp [hexDig], by (repeat (first | exact Below.refl _ _ | assumption | refine Below.drew ?_ | refine Below.alloc ?_ (by first | omega | (simp <;> omega)) _ | refine Below.setCell ?_ (by first | omega | (simp <;> omega)) _))⟩
        case measure => simp [intOf, strLen_S]
      · go_wp2_with go_region
        all_goals (try go_wp2)
        all_goals (go_roundw)
        case rel => exact ⟨q, hexDig r :: t, by omega, by go_num, rfl, by rw [HD.out, HS.out]; simp, by (repeat (first | exact Below.refl _ _ | assumption | refine Below.drew ?_ | refine Below.alloc ?_ (by first | omega | (simp <;> omega)) _ | refine Below.setCell ?_ (by first | omega | (simp <;> omega)) _))⟩
        case measure => simp [intOf, strLen_S]; omega
set_option maxHeartbeats 800000 in
set_option maxRecDepth 100000 in
theorem digitsHex (n : Nat) (hn : n < 18446744073709551616) (w : World) : Calls Tryd.prog 15 #[.int .u64 n, .int .u64 16] w fun e w' => e = .returned (.string (S (hexL n))) ∧ Below w.heap.size w w' := by
  have hlen : (hexL n).length ≤ 20 := by
    first
    | (rw [Lib.decDigits_length]; exact Lib.nDigits_le20 n hn)
    | exact Nat.le_trans (hexL_len n) (by decide)
  have HLEN := Lib.hid hlen
  clear hlen
  go_enter Tryd.func15, Tryd.ntmps15
  go_wp2
  simp only [mk_S]
  go_loopw [0, 5] (fun nv ov wr => ∃ u : Nat, ∃ t : List UInt8, u < 18446744073709551616 ∧ nv = .int .u64 u ∧ ov = .string (S t) ∧ hexL n = (if u = 0 ∧ t ≠ [] then [] else hexL u) ++ t ∧ Below w.heap.size w wr) (fun nv ov _ => (intOf nv).toNat + (1 - strLen ov))
  case atStart => exact ⟨n, [], hn, rfl, rfl, by simp, by (repeat (first | exact Below.refl _ _ | assumption | refine Below.drew ?_ | refine Below.alloc ?_ (by first | omega | (simp <;> omega)) _ | refine Below.setCell ?_ (by first | omega | (simp <;> omega)) _))⟩
  case round =>
    obtain ⟨u, t, hu, rfl, rfl, hD, hB⟩ := hrel
    have htl : t.length ≤ 20 := by
      have := congrArg List.length hD
      have h2 := HLEN.out
      simp only [List.length_append] at this
      omega
    by_cases hgo : u = 0 ∧ t ≠ []
    · obtain ⟨rfl, ht⟩ := hgo
      have hne : t.isEmpty = false := by
        cases t with
        | nil => exact absurd rfl ht
        | cons a t => rfl
      rw [if_pos ⟨rfl, ht⟩, List.nil_append] at hD
      have HD := Lib.hid hD
      clear hD
      go_wp2
      go_ret
      exact ⟨by rw [HD.out]; rfl, by assumption⟩
    · have hr : u % 16 < 16 := by omega
      have hsl := digits16_at (u % 16) hr
      rw [if_neg hgo] at hD
      have hstep : hexL u = (if u / 16 = 0 ∧ hexDig (u % 16) :: t ≠ [] then [] else hexL (u / 16)) ++ [hexDig (u % 16)] := by
        by_cases hs : u < 16
        · have e1 : u / 16 = 0 := by omega
          have e2 : u % 16 = u := by omega
          rw [if_pos ⟨e1, by simp⟩, e2, List.nil_append]
          first
          | exact decDigits_lt hs
          | exact hexL_one hs
        · rw [if_neg (by intro h; omega)]
          first
          | exact decDigits_ten hs
          | exact hexL_step (by omega) hu
      have HD := Lib.hid hD
      have HS := Lib.hid hstep
      clear hD hstep
      obtain ⟨r, hrr⟩ : ∃ r, u % 16 = r := ⟨_, rfl⟩
      obtain ⟨q, hqq⟩ : ∃ q, u / 16 = q := ⟨_, rfl⟩
      have hri : (u : Int) % 16 = (r : Int) := by omega
      have hqi : (u : Int) / 16 = (q : Int) := by omega
      rw [hrr] at hr hsl HS
      rw [hqq] at HS
      simp only [List.take_succ_cons] at hsl
      by_cases hu0 : u = 0
      · have ht0 : t = [] := by
          cases t with
          | nil => rfl
          | cons a t => exact absurd ⟨hu0, by simp⟩ hgo
        subst hu0
        subst ht0
        go_wp2_with go_region
        all_goals (try go_wp2)
        all_goals (go_roundw)
        case rel => exact ⟨0, [48], by omega, rfl, rfl, by rw [HD.out, HS.out, ← hqq, ← hrr]; simp [hexDig], by (repeat (first | exact Below.refl _ _ | assumption | refine Below.drew ?_ | refine Below.alloc ?_ (by first | omega | (simp <;> omega)) _ | refine Below.setCell ?_ (by first | omega | (simp <;> omega)) _))⟩
        case measure => simp [intOf, strLen_S]
      · go_wp2_with go_region
        all_goals (try go_wp2)
        all_goals (go_roundw)
        case rel => exact ⟨q, hexDig r :: t, by omega, by go_num, rfl, by rw [HD.out, HS.out]; simp, by (repeat (first | exact Below.refl _ _ | assumption | refine Below.drew ?_ | refine Below.alloc ?_ (by first | omega | (simp <;> omega)) _ | refine Below.setCell ?_ (by first | omega | (simp <;> omega)) _))⟩
        case measure => simp [intOf, strLen_S]; omega
end Go.Proofs.YtbnfnbedjgmeiaaDoor
