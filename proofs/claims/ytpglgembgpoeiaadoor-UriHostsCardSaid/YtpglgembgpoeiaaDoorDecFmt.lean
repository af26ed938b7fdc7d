/- Numbers written in decimal digits: strconv.FormatUint at the base 10, number.Dec, the document's Digits at the base 10. -/
import Derived.Test.YtpglgembgpoeiaaDoorStrs
import Derived.Lib.AppendIntMem
import Derived.Lib.ItoaLen
namespace Go.Proofs.YtpglgembgpoeiaaDoor
open Go.RowKit Go.Sort Go.Shelf
set_option linter.unusedVariables false

/-- What the road to digits reads of the program's tables. -/
structure Laid (w : World) : Prop where
  pow : Lib.TabIs Tryd.prog w "internal/strconv.uint64pow10" .u64 Lib.pow10Tab
theorem gPow : Tryd.prog.globalNamed "internal/strconv.uint64pow10" = some 4 := by kernel_rfl
theorem Laid.on {w w' : World} (h : Laid w) (hb : Below w.heap.size w w') : Laid w' :=
  ⟨Joins.tab_stays gPow h.pow hb (Nat.le_refl _)⟩

set_option maxHeartbeats 800000 in
theorem fmt10_small (n : Nat) (hn : n < 100) (w : World) : Calls Tryd.prog 83 #[.int .u64 n, .int .i64 10] w fun e w' => e = .returned (.string (S (Lib.decDigits n))) ∧ Below w.heap.size w w' := by
  go_enter Tryd.func83, Tryd.ntmps83
  go_wp2_with (go_at_call 89; refine (Tryd.internal_strconv_small n hn _).mono ?_; rintro e w' ⟨rfl, rfl⟩)
  go_ret
  exact ⟨rfl, by (repeat (first | (with_reducible exact Below.refl _ _) | (with_reducible assumption) | (with_reducible refine Below.drew ?_) | (focus ((with_reducible refine Below.setCell ?_ ?_ _); rotate_left; (first | omega | (simp <;> omega)))) | (focus ((with_reducible refine Below.alloc ?_ ?_ _); rotate_left; (first | omega | (simp <;> omega)))) | exact Below.refl _ _ | assumption | refine Below.drew ?_ | refine Below.alloc ?_ (by first | omega | (simp <;> omega)) _ | refine Below.setCell ?_ (by first | omega | (simp <;> omega)) _))⟩

set_option maxHeartbeats 3200000 in
set_option maxRecDepth 100000 in
theorem fmt10_big (u : Nat) (hs : 100 ≤ u) (hu64 : u < 18446744073709551616) (w : World) (hL : Laid w) : Calls Tryd.prog 83 #[.int .u64 u, .int .i64 10] w fun e w' => e = .returned (.string (S (Lib.decDigits u))) ∧ Below w.heap.size w w' := by
  have hu1 : 1 ≤ u := by omega
  have hnd20 : Lib.nDigits u ≤ 20 := by have := Lib.numDigits_eq u hu1 hu64; split at this <;> omega
  have hal : Tryd.prog.arrayLen 107 = 24 := by simp [Program.arrayLen, Tryd.underlying107]
  have hsl1 : ∀ W, (Instr.sliceAt 107 (.pointer (some ⟨w.heap.size, 0, none⟩)) none (some (.int .i64 (Lib.nDigits u : Int))) none).run Tryd.prog W = .ok (.slice (some ⟨w.heap.size, 0, none⟩) (Lib.nDigits u) 24) W := fun W => by
    rw [run_sliceAt_array_h W 107 ⟨w.heap.size, 0, none⟩ (by simp [Program.arrayLen, Program.elem, Tryd.underlying107]) .i64 (Lib.nDigits u : Int) (by omega) (by rw [hal]; omega)]
    go_simp
  have hz24 : ∀ w, (zeroValue 107).run Tryd.prog w = .ok (.agg Lib.zeros24) w := fun _ => by kernel_rfl
  have hH0 : Holds (fun (b : UInt8) => Value.int .u8 (b.toNat : Int)) (w.alloc (.cells Lib.zeros24 107)) w.heap.size 0 (Array.replicate (Lib.nDigits u) (0 : UInt8)) := fun j hj => by
    have hj' : j < Lib.nDigits u := by simpa using hj
    rw [World.cell?_alloc_new, Nat.zero_add, Lib.zeros24_at j (by omega)]
    simp [hj']
  have hfmt := Tryd.internal_strconv_formatBase10 w.heap.size 0 24 u (Array.replicate (Lib.nDigits u) 0) (w.alloc (.cells Lib.zeros24 107)) hH0 (by rw [Array.size_replicate]; exact Lib.lt_pow_nDigits u) hu64 (by rw [Array.size_replicate]; omega)
  rw [Array.size_replicate] at hfmt
  have HH0 := Lib.hid hH0
  clear hH0 hal
  go_enter Tryd.func83, Tryd.ntmps83
  go_wp2_with (go_at_call 90; refine (Tryd.internal_strconv_numDigits u hu1 hu64 _ (Lib.tabIs_alloc hL.pow _)).mono ?_; rintro e w' ⟨rfl, rfl⟩)
  refine hfmt.mono ?_
  rintro e w' ⟨rfl, k, v', dk, rfl, hF⟩
  have hcv : (convert 48 9 (.slice (some ⟨w.heap.size, 0, none⟩) (Lib.nDigits u) 24)).run Tryd.prog ((putRow (fun (b : UInt8) => Value.int .u8 (b.toNat : Int)) (w.alloc (.cells Lib.zeros24 107)) w.heap.size 0 dk).drewN k) = .ok (.string ⟨(Lib.decDigits u).toArray⟩) ((putRow (fun (b : UInt8) => Value.int .u8 (b.toNat : Int)) (w.alloc (.cells Lib.zeros24 107)) w.heap.size 0 dk).drewN k) := by
    have h := run_convert_bytes_back (P := Tryd.prog) ((putRow (fun (b : UInt8) => Value.int .u8 (b.toNat : Int)) (w.alloc (.cells Lib.zeros24 107)) w.heap.size 0 dk).drewN k) 48 9 5 ⟨w.heap.size, 0, none⟩ 24 (Lib.decDigits u) Tryd.underlying48 Tryd.underlying5 Tryd.underlying9 (fun j hj => by
      rw [Lib.row_is_numeral hF j hj, Lib.add_plain, World.cell?_drewN]
      exact cell?_putRow (fun (b : UInt8) => Value.int .u8 (b.toNat : Int)) _ w.heap.size 0 _ dk HH0.out (by rw [hF.size, Array.size_replicate]) j (by rw [hF.size]; rw [Lib.decDigits_length] at hj; exact hj))
    rw [Lib.decDigits_length] at h
    exact h
  go_wp2
  go_ret
  refine ⟨rfl, ?_⟩
  obtain ⟨os, eos⟩ := Lib.fin_at w (.cells Lib.zeros24 107) dk k 0
  rw [eos]
  exact Lib.below_grow _ w (Nat.le_refl _) k os
set_option maxHeartbeats 800000 in
/-- number.Dec. -/
theorem decC (n : Nat) (hn : n < 18446744073709551616) (w : World) (hL : Laid w) : Calls Tryd.prog 39 #[.int .u64 n] w fun e w' => e = .returned (.string (S (Lib.decDigits n))) ∧ Below w.heap.size w w' := by
  have hc : Calls Tryd.prog 83 #[.int .u64 n, .int .i64 10] w fun e w' => e = .returned (.string (S (Lib.decDigits n))) ∧ Below w.heap.size w w' := by
    by_cases h : n < 100
    · exact fmt10_small n h w
    · exact fmt10_big n (by omega) hn w hL
  clear hL
  go_enter Tryd.func39, Tryd.ntmps39
  go_wp2_with (first | (go_at_call 83; refine hc.mono ?_; rintro e w' ⟨rfl, hb⟩) | go_in)
  go_ret
  exact ⟨rfl, by assumption⟩

def decDig (d : Nat) : UInt8 := (48 + d).toUInt8
theorem digits10_at (d : Nat) (h : d < 10) : ([48, 49, 50, 51, 52, 53, 54, 55, 56, 57, 97, 98, 99, 100, 101, 102].take (d + 1)).drop d = [decDig d] := by
  have : ∀ d : Fin 10, (([48, 49, 50, 51, 52, 53, 54, 55, 56, 57, 97, 98, 99, 100, 101, 102] : List UInt8).take (d.val + 1)).drop d.val = [decDig d.val] := by decide
  exact this ⟨d, h⟩
theorem decDigits_ten {u : Nat} (h : ¬ u < 10) : Lib.decDigits u = Lib.decDigits (u / 10) ++ [decDig (u % 10)] := by
  rw [Lib.decDigits, dif_neg h]
  rfl
theorem decDigits_lt {u : Nat} (h : u < 10) : Lib.decDigits u = [decDig u] := by
  rw [Lib.decDigits_one h]
  rfl

set_option maxHeartbeats 800000 in
set_option maxRecDepth 100000 in
theorem digitsDec (n : Nat) (hn : n < 18446744073709551616) (w : World) : Calls Tryd.prog 32 #[.int .u64 n, .int .u64 10] w fun e w' => e = .returned (.string (S (Lib.decDigits n))) ∧ Below w.heap.size w w' := by
  have hlen : (Lib.decDigits n).length ≤ 20 := by
    rw [Lib.decDigits_length]; exact Lib.nDigits_le20 n hn
  have HLEN := Lib.hid hlen
  clear hlen
  go_enter Tryd.func32, Tryd.ntmps32
  go_wp2
  simp only [mk_S]
  go_loopw [0, 5] (fun nv ov wr => ∃ u : Nat, ∃ t : List UInt8, u < 18446744073709551616 ∧ nv = .int .u64 u ∧ ov = .string (S t) ∧ Lib.decDigits n = (if u = 0 ∧ t ≠ [] then [] else Lib.decDigits u) ++ t ∧ Below w.heap.size w wr) (fun nv ov _ => (intOf nv).toNat + (1 - strLen ov))
  case atStart => exact ⟨n, [], hn, rfl, rfl, by simp, by (repeat (first | (with_reducible exact Below.refl _ _) | (with_reducible assumption) | (with_reducible refine Below.drew ?_) | (focus ((with_reducible refine Below.setCell ?_ ?_ _); rotate_left; (first | omega | (simp <;> omega)))) | (focus ((with_reducible refine Below.alloc ?_ ?_ _); rotate_left; (first | omega | (simp <;> omega)))) | exact Below.refl _ _ | assumption | refine Below.drew ?_ | refine Below.alloc ?_ (by first | omega | (simp <;> omega)) _ | refine Below.setCell ?_ (by first | omega | (simp <;> omega)) _))⟩
  case round =>
    obtain ⟨u, t, hu, rfl, rfl, hD, hB⟩ := hrel
    have htl : t.length ≤ 20 := by
      have := congrArg List.length hD
      have h2 := HLEN.out
      simp only [List.length_append] at this
      omega
    by_cases hgo : u = 0 ∧ t ≠ []
    · obtain ⟨rfl, ht⟩ := hgo
      have hne : t.isEmpty = false := by
        cases t with
        | nil => exact absurd rfl ht
        | cons a t => rfl
      rw [if_pos ⟨rfl, ht⟩, List.nil_append] at hD
      have HD := Lib.hid hD
      clear hD
      go_wp2
      go_ret
      exact ⟨by rw [HD.out]; rfl, by assumption⟩
    · have hr : u % 10 < 10 := by omega
      have hsl := digits10_at (u % 10) hr
      rw [if_neg hgo] at hD
      have hstep : Lib.decDigits u = (if u / 10 = 0 ∧ decDig (u % 10) :: t ≠ [] then [] else Lib.decDigits (u / 10)) ++ [decDig (u % 10)] := by
        by_cases hs : u < 10
        · have e1 : u / 10 = 0 := by omega
          have e2 : u % 10 = u := by omega
          rw [if_pos ⟨e1, by simp⟩, e2, List.nil_append]
          exact decDigits_lt hs
        · rw [if_neg (by intro h; omega)]
          exact decDigits_ten hs
      have HD := Lib.hid hD
      have HS := Lib.hid hstep
      clear hD hstep
      obtain ⟨r, hrr⟩ : ∃ r, u % 10 = r := ⟨_, rfl⟩
      obtain ⟨q, hqq⟩ : ∃ q, u / 10 = q := ⟨_, rfl⟩
      have hri : (u : Int) % 10 = (r : Int) := by omega
      have hqi : (u : Int) / 10 = (q : Int) := by omega
      rw [hrr] at hr hsl HS
      rw [hqq] at HS
      simp only [List.take_succ_cons] at hsl
      by_cases hu0 : u = 0
      · have ht0 : t = [] := by
          cases t with
          | nil => rfl
          | cons a t => exact absurd ⟨hu0, by simp⟩ hgo
        subst hu0
        subst ht0
        go_wp2_with go_region
        all_goals (try go_wp2)
        all_goals (go_roundw)
        case rel => exact ⟨0, [48], by omega, rfl, rfl, by rw [HD.out, HS.out, ← hqq, ← hrr]; simp [decDig], by (repeat (first | (with_reducible exact Below.refl _ _) | (with_reducible assumption) | (with_reducible refine Below.drew ?_) | (focus ((with_reducible refine Below.setCell ?_ ?_ _); rotate_left; (first | omega | (simp <;> omega)))) | (focus ((with_reducible refine Below.alloc ?_ ?_ _); rotate_left; (first | omega | (simp <;> omega)))) | exact Below.refl _ _ | assumption | refine Below.drew ?_ | refine Below.alloc ?_ (by first | omega | (simp <;> omega)) _ | refine Below.setCell ?_ (by first | omega | (simp <;> omega)) _))⟩
        case measure => simp [intOf, strLen_S]
      · go_wp2_with go_region
        all_goals (try go_wp2)
        all_goals (go_roundw)
        case rel => exact ⟨q, decDig r :: t, by omega, by go_num, rfl, by rw [HD.out, HS.out]; simp, by (repeat (first | (with_reducible exact Below.refl _ _) | (with_reducible assumption) | (with_reducible refine Below.drew ?_) | (focus ((with_reducible refine Below.setCell ?_ ?_ _); rotate_left; (first | omega | (simp <;> omega)))) | (focus ((with_reducible refine Below.alloc ?_ ?_ _); rotate_left; (first | omega | (simp <;> omega)))) | exact Below.refl _ _ | assumption | refine Below.drew ?_ | refine Below.alloc ?_ (by first | omega | (simp <;> omega)) _ | refine Below.setCell ?_ (by first | omega | (simp <;> omega)) _))⟩
        case measure => simp [intOf, strLen_S]; omega
end Go.Proofs.YtpglgembgpoeiaaDoor
