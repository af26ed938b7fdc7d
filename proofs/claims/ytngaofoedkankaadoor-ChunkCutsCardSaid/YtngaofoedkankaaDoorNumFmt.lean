/- Numbers written in digits: the walks of strconv.FormatUint at the bases 10 and 16. -/
import Derived.Test.YtngaofoedkankaaDoorStrs
import Derived.Lib.AppendIntMem
namespace Go.Proofs.YtngaofoedkankaaDoor
open Go.RowKit Go.Sort Go.Shelf
set_option linter.unusedVariables false

set_option maxHeartbeats 400000 in
theorem tz16 (w : World) (h : w.cell? ⟨3, 15, none⟩ = some (.int .u8 4)) : Calls Tryd.prog 93 #[.int .u64 16] w fun e w' => e = .returned (.int .i64 4) ∧ w' = w := by
  have e1 : bits BinOp.and IntKind.u64 16 (IntKind.u64.wrap (-16)) = 16 := by rfl
  have e2 : IntKind.u64.wrap (16 * 285870213051353865) = 4573923408821661840 := by rfl
  go_enter Tryd.func93, Tryd.ntmps93
  go_wp2
  go_ret
  exact ⟨rfl, rfl⟩

/-- A number's digits to the base 16. -/
def hexDig (d : Nat) : UInt8 := if d < 10 then (48 + d).toUInt8 else (87 + d).toUInt8
def hexF : Nat → Nat → List UInt8
  | 0, _ => []
  | f + 1, n => if n < 16 then [hexDig n] else hexF f (n / 16) ++ [hexDig (n % 16)]
def hexL (n : Nat) : List UInt8 := hexF 16 n
theorem hexF_more : ∀ (f n : Nat), n < 16 ^ f → 0 < f → hexF (f + 1) n = hexF f n
  | 0, n, h, h0 => by omega
  | f + 1, n, h, _ => by
    by_cases h16 : n < 16
    · simp [hexF, h16]
    · have hf : 0 < f := by
        rcases Nat.eq_zero_or_pos f with rfl | h'
        · simp at h; omega
        · exact h'
      have ih := hexF_more f (n / 16) (by rw [Nat.pow_succ] at h; omega) hf
      conv => lhs; unfold hexF
      conv => rhs; unfold hexF
      rw [if_neg h16, if_neg h16, ih]

def zeros65 : Array Value := (List.replicate 65 (Value.int .u8 0)).toArray
theorem zeros65_at (k : Nat) (h : k < 65) : zeros65[k]? = some (.int .u8 0) := by
  unfold zeros65; rw [List.getElem?_toArray, List.getElem?_replicate, if_pos h]
theorem zero65 (w : World) : (zeroValue 113).run Tryd.prog w = .ok (.agg zeros65) w := by kernel_rfl

theorem hexL_step {u : Nat} (h : 16 ≤ u) (hu : u < 18446744073709551616) : hexL u = hexL (u / 16) ++ [hexDig (u % 16)] := by
  have e := hexF_more 15 (u / 16) (by have : (16 : Nat) ^ 15 = 1152921504606846976 := by decide
                                      rw [this]; omega) (by decide)
  unfold hexL
  rw [e]
  conv => lhs; unfold hexF
  rw [if_neg (by omega)]
theorem hexL_one {u : Nat} (h : u < 16) : hexL u = [hexDig u] := by
  unfold hexL hexF
  rw [if_pos h]
theorem hex_room {u k : Nat} (h : 16 ≤ u) (hu : u < 16 ^ (16 - k)) (hk : k < 16) : k + 1 < 16 ∧ u / 16 < 16 ^ (16 - (k + 1)) := by
  have h1 : k + 1 < 16 := by
    apply Decidable.byContradiction
    intro h'
    have : k = 15 := by omega
    subst this
    simp at hu; omega
  refine ⟨h1, ?_⟩
  rw [show 16 - k = (16 - (k + 1)) + 1 by omega, Nat.pow_succ] at hu
  omega
/-- The thirty-six digits. -/
def digits36 : List UInt8 := [48, 49, 50, 51, 52, 53, 54, 55, 56, 57, 97, 98, 99, 100, 101, 102, 103, 104, 105, 106, 107, 108, 109, 110, 111, 112, 113, 114, 115, 116, 117, 118, 119, 120, 121, 122]
theorem digits36_at (d : Nat) (h : d < 16) : bAt [48, 49, 50, 51, 52, 53, 54, 55, 56, 57, 97, 98, 99, 100, 101, 102, 103, 104, 105, 106, 107, 108, 109, 110, 111, 112, 113, 114, 115, 116, 117, 118, 119, 120, 121, 122] d = ((hexDig d).toNat : Int) := by
  have : ∀ d : Fin 16, bAt digits36 d = ((hexDig d).toNat : Int) := by decide
  exact this ⟨d, h⟩
theorem and15 (u : Nat) (h : u < 18446744073709551616) : bits BinOp.and IntKind.u64 (u : Int) 15 = ((u % 16 : Nat) : Int) := by
  have := bits_and_u64_nat u 15 h (by decide)
  rw [show (15 : Nat) = 2 ^ 4 - 1 by rfl, Nat.and_two_pow_sub_one_eq_mod] at this
  exact this

set_option maxHeartbeats 800000 in
set_option maxRecDepth 100000 in
theorem bits16 (n : Nat) (hn : n < 18446744073709551616) (w : World) (h : w.cell? ⟨3, 15, none⟩ = some (.int .u8 4)) (hg : 3 < w.heap.size) :
    Calls Tryd.prog 73 #[.slice none 0 0, .int .u64 n, .int .i64 16, .bool false, .bool false] w fun e w' => e = .returned (.tuple #[.slice none 0 0, .string (S (hexL n))]) ∧ Below w.heap.size w w' := by
  have e1 : bits BinOp.and IntKind.i64 16 15 = 0 := by rfl
  have hz := zero65
  go_enter Tryd.func73, Tryd.ntmps73
  go_wp2_with (first | (go_at_call 93; refine (tz16 _ (by simp [go_sem, *])).mono ?_; rintro e w' ⟨rfl, rfl⟩) | go_in)
  simp only [mk_S]
  go_loopw [1, 13] (fun uv iv wr => ∃ u i : Nat, ∃ t : List UInt8, ∃ A : Array Value, uv = .int .u64 u ∧ iv = .int .i64 i ∧ i + t.length = 65 ∧ hexL n = hexL u ++ t ∧ u < 16 ^ (16 - t.length) ∧ t.length < 16 ∧
      A.size = 65 ∧ wr.heap[w.heap.size]? = some (.cells A 113 (0, 0)) ∧ (∀ k, k < t.length → A[i + k]? = some (.int .u8 ((t.getD k 0).toNat : Int))) ∧ Below w.heap.size w wr) (fun uv _ _ => (intOf uv).toNat)
  case atStart => exact ⟨n, 65, [], zeros65, rfl, rfl, rfl, by simp, hn, by decide, by simp [zeros65], by show (w.heap.push _)[w.heap.size]? = _; rw [Array.getElem?_push_size], by simp, by (repeat (first | (with_reducible exact Below.refl _ _) | (with_reducible assumption) | (with_reducible refine Below.drew ?_) | (focus ((with_reducible refine Below.setCell ?_ ?_ _); rotate_left; (first | omega | (simp <;> omega)))) | (focus ((with_reducible refine Below.alloc ?_ ?_ _); rotate_left; (first | omega | (simp <;> omega)))) | exact Below.refl _ _ | assumption | refine Below.drew ?_ | refine Below.alloc ?_ (by first | omega | (simp <;> omega)) _ | refine Below.setCell ?_ (by first | omega | (simp <;> omega)) _))⟩
  case round =>
    obtain ⟨u, i, t, A, rfl, rfl, hit, hhex, hu, ht, hA, hblk, hdig, hB⟩ := hrel
    obtain ⟨j, rfl⟩ : ∃ j, i = j + 1 := ⟨i - 1, by omega⟩
    have hj : j < 65 := by omega
    have hu2 : u < 18446744073709551616 := Nat.lt_of_lt_of_le hu (by have := Nat.pow_le_pow_right (show 0 < 16 by decide) (show 16 - t.length ≤ 16 by omega); simpa using this)
    have hc : wr.cell? ⟨w.heap.size, j, none⟩ = some A[j] := by rw [Joins.cell_of_block hblk, Array.getElem?_eq_getElem]
    have hf : wr.frozen? ⟨w.heap.size, j, none⟩ = false := Joins.unfrozen_of_block hblk j
    have hand := and15 u hu2
    have HX := Lib.hid hhex
    have HB := Lib.hid hblk
    have HD := Lib.hid hdig
    clear hhex hblk hdig
    by_cases h16 : 16 ≤ u
    · have hdg := digits36_at (u % 16) (by omega)
      go_wp2
      obtain ⟨r1, r2⟩ := hex_room h16 hu ht
      go_roundw
      case rel =>
        refine ⟨u / 16, j, hexDig (u % 16) :: t, A.setIfInBounds j (.int .u8 ((hexDig (u % 16)).toNat : Int)), by go_num, rfl, by simp; omega, ?_, ?_, ?_, by simp [hA], Joins.block_setCell HB.out _, fun k hk => ?_, by (repeat (first | (with_reducible exact Below.refl _ _) | (with_reducible assumption) | (with_reducible refine Below.drew ?_) | (focus ((with_reducible refine Below.setCell ?_ ?_ _); rotate_left; (first | omega | (simp <;> omega)))) | (focus ((with_reducible refine Below.alloc ?_ ?_ _); rotate_left; (first | omega | (simp <;> omega)))) | exact Below.refl _ _ | assumption | refine Below.drew ?_ | refine Below.alloc ?_ (by first | omega | (simp <;> omega)) _ | refine Below.setCell ?_ (by first | omega | (simp <;> omega)) _))⟩
        · rw [HX.out, hexL_step h16 hu2, List.append_assoc]; rfl
        · exact r2
        · exact r1
        · cases k with
          | zero => rw [Nat.add_zero, Array.getElem?_setIfInBounds_self_of_lt (by omega)]; rfl
          | succ k =>
            rw [Array.getElem?_setIfInBounds_ne (by omega), show j + (k + 1) = j + 1 + k by omega]
            simpa using HD.out k (by simpa using hk)
      case measure => simp [intOf]; omega
    · have hu16 : u < 16 := by omega
      have hdg := digits36_at u hu16
      have hlist : hexL n = hexDig u :: t := by rw [HX.out, hexL_one hu16]; rfl
      have hcv := run_convert_bytes_back (P := Tryd.prog) (wr.setCell ⟨w.heap.size, j, none⟩ (.int .u8 ((hexDig u).toNat : Int))) 32 9 5 ⟨w.heap.size, j, none⟩ (65 - j) (hexDig u :: t) Tryd.underlying32 Tryd.underlying5 Tryd.underlying9 (fun k hk => by
        rw [Lib.add_plain]
        cases k with
        | zero => exact World.cell?_setCell_same _ _ _ hc
        | succ k =>
          rw [World.cell?_setCell_other _ _ _ _ (by simp), Joins.cell_of_block HB.out, show j + (k + 1) = j + 1 + k by omega]
          have hk' : k < t.length := by simpa using hk
          rw [HD.out k hk', List.getElem_cons_succ]
          simp [List.getD, List.getElem?_eq_getElem hk'])
      rw [show (hexDig u :: t).length = 65 - j by simp; omega] at hcv
      have hal : Tryd.prog.arrayLen 113 = 65 := by simp [Program.arrayLen, Tryd.underlying113]
      have hsl : ∀ W, (Instr.sliceAt 113 (.pointer (some ⟨w.heap.size, 0, none⟩)) (some (.int .i64 (j : Int))) none none).run Tryd.prog W = .ok (.slice (some ⟨w.heap.size, j, none⟩) (65 - j) (65 - j)) W := fun W => by
        rw [run_sliceAt_array_l W 113 ⟨w.heap.size, 0, none⟩ (by simp [Program.arrayLen, Program.elem, Tryd.underlying113]) .i64 (j : Int) (by omega) (by rw [hal]; omega)]
        go_simp
        omega
      have HL := Lib.hid hlist
      clear hlist hal
      go_wp2
      go_ret2
      exact ⟨by rw [HL.out]; rfl, by (repeat (first | (with_reducible exact Below.refl _ _) | (with_reducible assumption) | (with_reducible refine Below.drew ?_) | (focus ((with_reducible refine Below.setCell ?_ ?_ _); rotate_left; (first | omega | (simp <;> omega)))) | (focus ((with_reducible refine Below.alloc ?_ ?_ _); rotate_left; (first | omega | (simp <;> omega)))) | exact Below.refl _ _ | assumption | refine Below.drew ?_ | refine Below.alloc ?_ (by first | omega | (simp <;> omega)) _ | refine Below.setCell ?_ (by first | omega | (simp <;> omega)) _))⟩

/-- What the road to digits reads of the program's tables. -/
structure Laid (w : World) : Prop where
  pow : Lib.TabIs Tryd.prog w "internal/strconv.uint64pow10" .u64 Lib.pow10Tab
  bru : w.cell? ⟨3, 15, none⟩ = some (.int .u8 4)
  lt : 3 < w.heap.size
theorem gPow : Tryd.prog.globalNamed "internal/strconv.uint64pow10" = some 1 := by kernel_rfl
theorem Laid.on {w w' : World} (h : Laid w) (hb : Below w.heap.size w w') : Laid w' :=
  ⟨Joins.tab_stays gPow h.pow hb (Nat.le_refl _), by rw [hb.cell (p := ⟨3, 15, none⟩) (by have := h.lt; show _ < _; omega)]; exact h.bru, Nat.lt_of_lt_of_le h.lt hb.size⟩

set_option maxHeartbeats 800000 in
theorem fmt16 (n : Nat) (hn : n < 18446744073709551616) (w : World) (h : Laid w) : Calls Tryd.prog 23 #[.int .u64 n] w fun e w' => e = .returned (.string (S (hexL n))) ∧ Below w.heap.size w w' := by
  have hl := h.lt
  have HL := Lib.hid h
  clear h
  go_enter Tryd.func23, Tryd.ntmps23
  go_wp2_with (first | (go_at_call 73; refine (bits16 n hn _ (HL.out.on (by (repeat (first | (with_reducible exact Below.refl _ _) | (with_reducible assumption) | (with_reducible refine Below.drew ?_) | (focus ((with_reducible refine Below.setCell ?_ ?_ _); rotate_left; (first | omega | (simp <;> omega)))) | (focus ((with_reducible refine Below.alloc ?_ ?_ _); rotate_left; (first | omega | (simp <;> omega)))) | exact Below.refl _ _ | assumption | refine Below.drew ?_ | refine Below.alloc ?_ (by first | omega | (simp <;> omega)) _ | refine Below.setCell ?_ (by first | omega | (simp <;> omega)) _)))).bru (by have := HL.out.lt; omega)).mono ?_; rintro e w1 ⟨rfl, hb⟩) | go_in)
  go_ret
  exact ⟨rfl, hb⟩

set_option maxHeartbeats 800000 in
theorem fmt10_small (n : Nat) (hn : n < 100) (w : World) : Calls Tryd.prog 58 #[.int .u64 n, .int .i64 10] w fun e w' => e = .returned (.string (S (Lib.decDigits n))) ∧ Below w.heap.size w w' := by
  go_enter Tryd.func58, Tryd.ntmps58
  go_wp2_with (go_at_call 70; refine (Tryd.internal_strconv_small n hn _).mono ?_; rintro e w' ⟨rfl, rfl⟩)
  go_ret
  exact ⟨rfl, by (repeat (first | (with_reducible exact Below.refl _ _) | (with_reducible assumption) | (with_reducible refine Below.drew ?_) | (focus ((with_reducible refine Below.setCell ?_ ?_ _); rotate_left; (first | omega | (simp <;> omega)))) | (focus ((with_reducible refine Below.alloc ?_ ?_ _); rotate_left; (first | omega | (simp <;> omega)))) | exact Below.refl _ _ | assumption | refine Below.drew ?_ | refine Below.alloc ?_ (by first | omega | (simp <;> omega)) _ | refine Below.setCell ?_ (by first | omega | (simp <;> omega)) _))⟩

set_option maxHeartbeats 3200000 in
set_option maxRecDepth 100000 in
theorem fmt10_big (u : Nat) (hs : 100 ≤ u) (hu64 : u < 18446744073709551616) (w : World) (hL : Laid w) : Calls Tryd.prog 58 #[.int .u64 u, .int .i64 10] w fun e w' => e = .returned (.string (S (Lib.decDigits u))) ∧ Below w.heap.size w w' := by
  have hu1 : 1 ≤ u := by omega
  have hnd20 : Lib.nDigits u ≤ 20 := by have := Lib.numDigits_eq u hu1 hu64; split at this <;> omega
  have hal : Tryd.prog.arrayLen 93 = 24 := by simp [Program.arrayLen, Tryd.underlying93]
  have hsl1 : ∀ W, (Instr.sliceAt 93 (.pointer (some ⟨w.heap.size, 0, none⟩)) none (some (.int .i64 (Lib.nDigits u : Int))) none).run Tryd.prog W = .ok (.slice (some ⟨w.heap.size, 0, none⟩) (Lib.nDigits u) 24) W := fun W => by
    rw [run_sliceAt_array_h W 93 ⟨w.heap.size, 0, none⟩ (by simp [Program.arrayLen, Program.elem, Tryd.underlying93]) .i64 (Lib.nDigits u : Int) (by omega) (by rw [hal]; omega)]
    go_simp
  have hz24 : ∀ w, (zeroValue 93).run Tryd.prog w = .ok (.agg Lib.zeros24) w := fun _ => by kernel_rfl
  have hH0 : Holds (fun (b : UInt8) => Value.int .u8 (b.toNat : Int)) (w.alloc (.cells Lib.zeros24 93)) w.heap.size 0 (Array.replicate (Lib.nDigits u) (0 : UInt8)) := fun j hj => by
    have hj' : j < Lib.nDigits u := by simpa using hj
    rw [World.cell?_alloc_new, Nat.zero_add, Lib.zeros24_at j (by omega)]
    simp [hj']
  have hfmt := Tryd.internal_strconv_formatBase10 w.heap.size 0 24 u (Array.replicate (Lib.nDigits u) 0) (w.alloc (.cells Lib.zeros24 93)) hH0 (by rw [Array.size_replicate]; exact Lib.lt_pow_nDigits u) hu64 (by rw [Array.size_replicate]; omega)
  rw [Array.size_replicate] at hfmt
  have HH0 := Lib.hid hH0
  clear hH0 hal
  go_enter Tryd.func58, Tryd.ntmps58
  go_wp2_with (go_at_call 71; refine (Tryd.internal_strconv_numDigits u hu1 hu64 _ (Lib.tabIs_alloc hL.pow _)).mono ?_; rintro e w' ⟨rfl, rfl⟩)
  refine hfmt.mono ?_
  rintro e w' ⟨rfl, k, v', dk, rfl, hF⟩
  have hcv : (convert 32 9 (.slice (some ⟨w.heap.size, 0, none⟩) (Lib.nDigits u) 24)).run Tryd.prog ((putRow (fun (b : UInt8) => Value.int .u8 (b.toNat : Int)) (w.alloc (.cells Lib.zeros24 93)) w.heap.size 0 dk).drewN k) = .ok (.string ⟨(Lib.decDigits u).toArray⟩) ((putRow (fun (b : UInt8) => Value.int .u8 (b.toNat : Int)) (w.alloc (.cells Lib.zeros24 93)) w.heap.size 0 dk).drewN k) := by
    have h := run_convert_bytes_back (P := Tryd.prog) ((putRow (fun (b : UInt8) => Value.int .u8 (b.toNat : Int)) (w.alloc (.cells Lib.zeros24 93)) w.heap.size 0 dk).drewN k) 32 9 5 ⟨w.heap.size, 0, none⟩ 24 (Lib.decDigits u) Tryd.underlying32 Tryd.underlying5 Tryd.underlying9 (fun j hj => by
      rw [Lib.row_is_numeral hF j hj, Lib.add_plain, World.cell?_drewN]
      exact cell?_putRow (fun (b : UInt8) => Value.int .u8 (b.toNat : Int)) _ w.heap.size 0 _ dk HH0.out (by rw [hF.size, Array.size_replicate]) j (by rw [hF.size]; rw [Lib.decDigits_length] at hj; exact hj))
    rw [Lib.decDigits_length] at h
    exact h
  go_wp2
  go_ret
  refine ⟨rfl, ?_⟩
  obtain ⟨os, eos⟩ := Lib.fin_at w (.cells Lib.zeros24 93) dk k 0
  rw [eos]
  exact Lib.below_grow _ w (Nat.le_refl _) k os
end Go.Proofs.YtngaofoedkankaaDoor
