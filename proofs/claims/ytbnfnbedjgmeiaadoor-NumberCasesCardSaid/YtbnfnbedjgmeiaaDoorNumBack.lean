/- The law NumberBack: what digits read as; its walk. -/
import Derived.Test.YtbnfnbedjgmeiaaDoorNumDigits
namespace Go.Proofs.YtbnfnbedjgmeiaaDoor
open Go.RowKit Go.Sort Go.Shelf
set_option linter.unusedVariables false

theorem dig10 (d : Nat) (h : d < 10) : decV (hexDig d).toNat = d := by
  have : ∀ d : Fin 10, decV (hexDig d.val).toNat = d.val := by decide
  exact this ⟨d, h⟩
theorem dig16 (d : Nat) (h : d < 16) : hexV (hexDig d).toNat = d := by
  have : ∀ d : Fin 16, hexV (hexDig d.val).toNat = d.val := by decide
  exact this ⟨d, h⟩
theorem good_dec (n : Nat) : valN decV 10 (Lib.decDigits n) = n ∧ badN decV 10 (Lib.decDigits n) = false ∧ Lib.decDigits n ≠ [] := by
  induction n using Nat.strongRecOn with
  | ind n ih =>
    by_cases h : n < 10
    · rw [decDigits_lt h]
      refine ⟨?_, ?_, by simp⟩
      · simp [valN, dig10 n h]
      · simp [badN, dig10 n h]; omega
    · obtain ⟨i1, i2, i3⟩ := ih (n / 10) (by omega)
      rw [decDigits_ten h]
      refine ⟨?_, ?_, by simp⟩
      · rw [valN_snoc, i1, dig10 _ (by omega)]; omega
      · rw [badN_snoc, i2, dig10 _ (by omega)]; simp; omega
theorem good_hex (n : Nat) (hn : n < 18446744073709551616) : valN hexV 16 (hexL n) = n ∧ badN hexV 16 (hexL n) = false ∧ hexL n ≠ [] := by
  induction n using Nat.strongRecOn with
  | ind n ih =>
    by_cases h : n < 16
    · rw [hexL_one h]
      refine ⟨?_, ?_, by simp⟩
      · simp [valN, dig16 n h]
      · simp [badN, dig16 n h]; omega
    · obtain ⟨i1, i2, i3⟩ := ih (n / 16) (by omega) (by omega)
      rw [hexL_step (by omega) hn]
      refine ⟨?_, ?_, by simp⟩
      · rw [valN_snoc, i1, dig16 _ (by omega)]; omega
      · rw [badN_snoc, i2, dig16 _ (by omega)]; simp; omega
theorem zeros_val (v : Nat → Nat) (b : Nat) (hv : v 48 = 0) (l : List UInt8) : ∀ z, valN v b (List.replicate z 48 ++ l) = valN v b l
  | 0 => rfl
  | z + 1 => by
    have := zeros_val v b hv l z
    unfold valN at this ⊢
    rw [List.replicate_succ, List.cons_append, List.foldl_cons]
    have e : 0 * b + v (48 : UInt8).toNat = 0 := by rw [show (48 : UInt8).toNat = 48 from rfl, hv]; omega
    rw [e]; exact this
theorem zeros_bad (v : Nat → Nat) (b : Nat) (hb : 1 ≤ b) (hv : v 48 = 0) (l : List UInt8) (z : Nat) : badN v b (List.replicate z 48 ++ l) = badN v b l := by
  unfold badN
  rw [List.any_append]
  have : (List.replicate z (48 : UInt8)).any (fun c => decide (b ≤ v c.toNat)) = false := by
    rw [List.any_eq_false]
    intro x hx
    rw [List.eq_of_mem_replicate hx, show (48 : UInt8).toNat = 48 from rfl, hv]
    simp; omega
  rw [this]; rfl
theorem read_zeros (v : Nat → Nat) (b : Nat) (hb : 1 ≤ b) (hv : v 48 = 0) (l : List UInt8) (n z : Nat) (h : valN v b l = n ∧ badN v b l = false ∧ l ≠ []) :
    readN v b (List.replicate z 48 ++ l) = if 1099511627776 < n then (0, 2) else (n, 0) := by
  obtain ⟨h1, h2, h3⟩ := h
  have hne : List.replicate z 48 ++ l ≠ [] := by simp [h3]
  have e1 := zeros_val v b hv l z
  have e2 := zeros_bad v b hb hv l z
  split
  · exact readN_long hne (e2.trans h2) (by rw [e1, h1]; assumption)
  · rw [readN_ok hne (e2.trans h2) (by rw [e1, h1]; assumption), e1, h1]

set_option maxHeartbeats 2000000 in
set_option maxRecDepth 100000 in
theorem numberBack (n : Nat) (hn : n < 18446744073709551616) (zeros : Int) (w : World) (hL : Laid w) :
    Calls Tryd.prog 5 #[.int .u64 n, .int .i64 zeros] w fun e w' => e = .returned (.bool true) ∧ Below w.heap.size w w' := by
  obtain ⟨z, hz⟩ : ∃ z : Nat, min (max zeros 0) 20 = (z : Int) := ⟨(min (max zeros 0) 20).toNat, by omega⟩
  have hz20 : z ≤ 20 := by omega
  have hdl : (Lib.decDigits n).length ≤ 20 := by rw [Lib.decDigits_length]; exact Lib.nDigits_le20 n hn
  have hhl : (hexL n).length ≤ 16 := hexL_len n
  have r1 := read_zeros decV 10 (by omega) rfl _ n z (good_dec n)
  have r2 := read_zeros hexV 16 (by omega) rfl _ n z (good_hex n hn)
  have r3 : signedN (45 :: (List.replicate z 48 ++ Lib.decDigits n)) = if 1099511627776 < n then (0, 2) else (-(n : Int), 0) := by
    have hp : Lib.hasPrefix (45 :: (List.replicate z 48 ++ Lib.decDigits n)) [45] = true := by simp [Lib.hasPrefix]
    have hr : Lib.trimPrefix (45 :: (List.replicate z 48 ++ Lib.decDigits n)) [45] = List.replicate z 48 ++ Lib.decDigits n := by simp [Lib.trimPrefix, hp]
    unfold signedN
    rw [if_pos hp, hr, r1]
    split <;> rfl
  have b1 : z + (Lib.decDigits n).length ≤ 9223372036854775807 := by omega
  have b2 : z + (hexL n).length ≤ 9223372036854775807 := by omega
  have b3 : z + 1 ≤ 9223372036854775807 := by omega
  have b4 : z + 1 + (Lib.decDigits n).length ≤ 9223372036854775807 := by omega
  have C1 := Lib.hid (fun l (hl : l = List.replicate z 48 ++ Lib.decDigits n) => (via_same (w := w) fun W => readDec l (by rw [hl]; simp; omega) W))
  have C2 := Lib.hid (fun l (hl : l = List.replicate z 48 ++ hexL n) => (via_same (w := w) fun W => readHex l (by rw [hl]; simp; omega) W))
  have C3 := Lib.hid (fun l (hl : l = 45 :: (List.replicate z 48 ++ Lib.decDigits n)) => (show Via w 13 #[.string (S l)] (.tuple #[.int .i64 (signedN (45 :: (List.replicate z 48 ++ Lib.decDigits n))).1, .int .i64 (signedN (45 :: (List.replicate z 48 ++ Lib.decDigits n))).2]) from hl ▸ via_same (w := w) fun W => signed l (by rw [hl]; simp; omega) W))
  have C7 := Lib.hid (via_alive hL); have C8 := Lib.hid (via_dec hL hn); have C9 := Lib.hid (via_hex hL hn)
  clear hL
  have hb := Below.refl w.heap.size w
  have R1 := Lib.hid r1; have R2 := Lib.hid r2; have R3 := Lib.hid r3
  clear r1 r2 r3
  go_enter Tryd.func5, Tryd.ntmps5
  go_wp2
  simp only [mk_S]
  go_loop [5, 15] (fun sv iv => ∃ k : Nat, k ≤ z ∧ sv = .string (S (List.replicate k 48)) ∧ iv = .int .i64 k) (fun _ iv => z - (intOf iv).toNat)
  case atStart => exact ⟨0, Nat.zero_le _, rfl, rfl⟩
  case round =>
    obtain ⟨k, hk, rfl, rfl⟩ := hrel
    by_cases hlt : k < z
    · have hrep : List.replicate k (48 : UInt8) ++ [48] = List.replicate (k + 1) 48 := by rw [List.replicate_succ']
      go_wp2
      go_round
      case rel => exact ⟨k + 1, by omega, by first | rfl | rw [hrep], by go_num⟩
      case measure => simp [intOf]; omega
    · have hkz : k = z := by omega
      subst hkz
      by_cases hbig : 1099511627776 < n
      · rw [if_pos hbig] at R1 R2 R3
        go_wp2_with (first
          | (go_at_call 10; refine (C8.out _ (by assumption)).mono ?_; rintro e w' ⟨rfl, hb⟩)
          | (go_at_call 7; refine (C9.out _ (by assumption)).mono ?_; rintro e w' ⟨rfl, hb⟩)
          | (go_at_call 11; refine (C1.out _ rfl _ (by assumption)).mono ?_; rw [R1.out]; rintro e w' ⟨rfl, hb⟩)
          | (go_at_call 8; refine (C2.out _ rfl _ (by assumption)).mono ?_; rw [R2.out]; rintro e w' ⟨rfl, hb⟩)
          | (go_at_call 13; refine (C3.out _ (by simp) _ (by assumption)).mono ?_; rw [R3.out]; rintro e w' ⟨rfl, hb⟩)
          | (go_at_call 9; refine (C7.out _ (by assumption)).mono ?_; rintro e w' ⟨rfl, hb⟩))
        go_ret
        exact ⟨rfl, by assumption⟩
      · rw [if_neg hbig] at R1 R2 R3
        go_wp2_with (first
          | (go_at_call 10; refine (C8.out _ (by assumption)).mono ?_; rintro e w' ⟨rfl, hb⟩)
          | (go_at_call 7; refine (C9.out _ (by assumption)).mono ?_; rintro e w' ⟨rfl, hb⟩)
          | (go_at_call 11; refine (C1.out _ rfl _ (by assumption)).mono ?_; rw [R1.out]; rintro e w' ⟨rfl, hb⟩)
          | (go_at_call 8; refine (C2.out _ rfl _ (by assumption)).mono ?_; rw [R2.out]; rintro e w' ⟨rfl, hb⟩)
          | (go_at_call 13; refine (C3.out _ (by simp) _ (by assumption)).mono ?_; rw [R3.out]; rintro e w' ⟨rfl, hb⟩)
          | (go_at_call 9; refine (C7.out _ (by assumption)).mono ?_; rintro e w' ⟨rfl, hb⟩))
        go_ret
        exact ⟨rfl, by assumption⟩

theorem numberBack_any (n zeros : Int) (w : World) (h0 : (Lit.int .u64 n).wf = true) (_h1 : (Lit.int .i64 zeros).wf = true) (hL : Laid w) :
    Calls Tryd.prog 5 #[.int .u64 n, .int .i64 zeros] w fun e w' => e = .returned (.bool true) ∧ Below w.heap.size w w' := by
  obtain ⟨m, rfl, hm⟩ := u64_nat h0
  exact numberBack m hm zeros w hL
end Go.Proofs.YtbnfnbedjgmeiaaDoor
