/- The document's find, Bytes, host: the walks. Numbers written in decimal digits: strconv.FormatUint at the base 10, number.Dec, the document's Digits at the base 10. -/
import Derived.Test.YtgjemgilanhdiaaGreatDoorRf4
import Derived.Test.YtgjemgilanhdiaaGreatDoorRf2
import Derived.Lib.AppendIntMem
import Derived.Lib.ItoaLen
namespace Go.Proofs.YtgjemgilanhdiaaGreatDoor
open Go.RowKit Go.Sort Go.Shelf
set_option linter.unusedVariables false

set_option maxHeartbeats 800000 in
theorem refFind (l : List UInt8) (c : UInt8) (hl : l.length ≤ 4611686018427387903) (w : World) : Calls Tryz.prog 52 #[.string (S l), .int .u8 (c.toNat : Int)] w fun e w' => e = .returned (.int .i64 (Lib.indexByte l c)) ∧ w' = w := by
  rw [← idxFrom_zero]
  have hc256 := c.toNat_lt
  have HB := Lib.hid (show ∀ d : UInt8, (d = c ↔ (d.toNat : Int) = (c.toNat : Int)) from fun d => ⟨fun e => by rw [e], fun e => UInt8.toNat.inj (by omega)⟩)
  obtain ⟨ci, hci⟩ : ∃ ci : Int, (c.toNat : Int) = ci := ⟨_, rfl⟩
  have hci0 : 0 ≤ ci ∧ ci < 256 := by omega
  obtain ⟨hci0, hci1⟩ := hci0
  rw [hci] at HB ⊢
  clear hci hc256
  go_enter Tryz.func52, Tryz.ntmps52
  go_wp2
  go_loop [5] (fun iv => ∃ i : Nat, iv = .int .i64 i ∧ i ≤ l.length ∧ idxFrom l c 0 = idxFrom l c i) (fun iv => l.length - (intOf iv).toNat)
  case atStart => exact ⟨0, rfl, Nat.zero_le _, rfl⟩
  case round =>
    obtain ⟨i, rfl, hi, hidx⟩ := hrel
    have HI := Lib.hid hidx
    clear hidx
    by_cases hlt : i < l.length
    · by_cases hc : l[i] = c
      · have e1 : bAt l i = ci := by rw [bAt_eq hlt]; exact (HB.out _).1 hc
        have HF := Lib.hid (HI.out.trans (idxFrom_hit hlt hc))
        clear hc
        go_wp2
        go_ret
        exact ⟨by rw [HF.out]; rfl, rfl⟩
      · have e1 : ¬ bAt l i = ci := by rw [bAt_eq hlt]; exact fun e => hc ((HB.out _).2 e)
        have e2 : (bAt l i == ci) = false := by simpa using e1
        have HF := Lib.hid (HI.out.trans (idxFrom_miss hlt hc))
        clear hc
        go_wp2
        go_round
        case rel => exact ⟨i + 1, by go_num, by omega, HF.out⟩
        case measure => simp [intOf]; omega
    · obtain rfl : i = l.length := by omega
      have HF := Lib.hid (HI.out.trans (idxFrom_end l c))
      go_wp2
      go_ret
      exact ⟨by rw [HF.out]; rfl, rfl⟩

set_option maxHeartbeats 1600000 in
theorem refBytes (l : List UInt8) (hl : l.length ≤ 4611686018427387903) (w : World) : Calls Tryz.prog 46 #[.string (S l)] w fun e w' => e = .returned (.bool (!l.any badU)) ∧ w' = w := by
  go_enter Tryz.func46, Tryz.ntmps46
  go_wp2
  go_loop [3] (fun iv => ∃ i : Nat, iv = .int .i64 i ∧ i ≤ l.length ∧ (l.take i).any badU = false) (fun iv => l.length - (intOf iv).toNat)
  case atStart => exact ⟨0, rfl, Nat.zero_le _, rfl⟩
  case round =>
    obtain ⟨i, rfl, hi, hany⟩ := hrel
    have HA := Lib.hid hany
    clear hany
    by_cases hlt : i < l.length
    · have hbk : bAt l i = (l[i].toNat : Int) := bAt_eq hlt
      have htk : (l.take (i + 1)).any badU = badU l[i] := by
        rw [List.take_succ_eq_append_getElem hlt, List.any_append, HA.out]; simp
      have hyes : badU l[i] = true → l.any badU = true := fun h => List.any_eq_true.2 ⟨_, List.getElem_mem hlt, h⟩
      obtain ⟨c, hc⟩ : ∃ c, l[i] = c := ⟨_, rfl⟩
      rw [hc] at hbk htk hyes
      have hbf := bad_find c
      have hc256 := c.toNat_lt
      have hf := refFind sgnU9 c (by decide)
      unfold sgnU9 at hf hbf
      obtain ⟨k, hk⟩ : ∃ k, Lib.indexByte [34, 35, 60, 62, 92, 94, 123, 124, 125] c = k := ⟨_, rfl⟩
      rw [hk] at hf hbf
      have HFD := Lib.hid hf
      obtain ⟨n, hn⟩ : ∃ n, c.toNat = n := ⟨_, rfl⟩
      rw [hn] at hbk hbf hc256 HFD
      have HT := Lib.hid htk
      have HY := Lib.hid hyes
      have HBF := Lib.hid hbf
      clear htk hyes hc hk hf hn hbf
      by_cases h1 : n < 33
      · have H := Lib.hid (HY.out (by rw [← HBF.out]; simp [h1]))
        go_wp2
        go_ret
        exact ⟨by rw [H.out]; rfl, rfl⟩
      · by_cases h2 : 126 < n
        · have H := Lib.hid (HY.out (by rw [← HBF.out]; simp [h2]))
          go_wp2
          go_ret
          exact ⟨by rw [H.out]; rfl, rfl⟩
        · have h2' : (n : Int) ≤ 126 := by omega
          by_cases h3 : n = 96
          · have H := Lib.hid (HY.out (by rw [← HBF.out]; simp [h3]))
            subst h3
            go_wp2
            go_ret
            exact ⟨by rw [H.out]; rfl, rfl⟩
          · have h3' : ((n : Int) == 96) = false := by simp; omega
            by_cases h4 : 0 ≤ k
            · have H := Lib.hid (HY.out (by rw [← HBF.out]; simp [h4]))
              go_wp2_with (go_at_call 52; refine (HFD.out _).mono ?_; rintro e w' ⟨rfl, rfl⟩)
              go_ret
              exact ⟨by rw [H.out]; rfl, rfl⟩
            · have H := Lib.hid (show badU c = false by rw [← HBF.out]; simp; omega)
              go_wp2_with (go_at_call 52; refine (HFD.out _).mono ?_; rintro e w' ⟨rfl, rfl⟩)
              go_round
              case rel => exact ⟨i + 1, by go_num, by omega, by rw [HT.out, H.out]⟩
              case measure => simp [intOf]; omega
    · obtain rfl : i = l.length := by omega
      have h := HA.out
      rw [List.take_length] at h
      have H := Lib.hid h
      clear h
      go_wp2
      go_ret
      exact ⟨by rw [H.out]; rfl, rfl⟩

set_option maxHeartbeats 1600000 in
theorem refHost (l : List UInt8) (hl : l.length ≤ 4611686018427387903) (w : World) : Calls Tryz.prog 55 #[.string (S l)] w fun e w' => e = .returned (.bool (hostL l)) ∧ w' = w := by
  go_enter Tryz.func55, Tryz.ntmps55
  go_wp2
  go_loop [3] (fun iv => ∃ i : Nat, iv = .int .i64 i ∧ i ≤ l.length ∧ (l.take i).all hostB = true) (fun iv => l.length - (intOf iv).toNat)
  case atStart => exact ⟨0, rfl, Nat.zero_le _, rfl⟩
  case round =>
    obtain ⟨i, rfl, hi, hall⟩ := hrel
    have HA := Lib.hid hall
    clear hall
    by_cases hlt : i < l.length
    · have hbk : bAt l i = (l[i].toNat : Int) := bAt_eq hlt
      have htk : (l.take (i + 1)).all hostB = hostB l[i] := by
        rw [List.take_succ_eq_append_getElem hlt, List.all_append, HA.out]; simp
      have hno : hostB l[i] = false → hostL l = false := fun h => by
        unfold hostL
        rw [List.all_eq_false.2 ⟨_, List.getElem_mem hlt, by simp [h]⟩, Bool.and_false]
      obtain ⟨c, hc⟩ : ∃ c, l[i] = c := ⟨_, rfl⟩
      rw [hc] at hbk htk hno
      have hbf := host_find c
      have hf := refFind hostAll c (by decide)
      unfold hostAll at hf hbf
      obtain ⟨k, hk⟩ : ∃ k, Lib.indexByte [97, 98, 99, 100, 101, 102, 103, 104, 105, 106, 107, 108, 109, 110, 111, 112, 113, 114, 115, 116, 117, 118, 119, 120, 121, 122, 48, 49, 50, 51, 52, 53, 54, 55, 56, 57, 45, 46] c = k := ⟨_, rfl⟩
      rw [hk] at hf hbf
      have HFD := Lib.hid hf
      have HT := Lib.hid htk
      have HN := Lib.hid hno
      have HBF := Lib.hid hbf
      clear htk hno hc hk hf hbf
      by_cases h4 : k < 0
      · have H := Lib.hid (HN.out (by have := HBF.out; rw [decide_eq_true h4] at this; simpa using this.symm))
        go_wp2_with (go_at_call 52; refine (HFD.out _).mono ?_; rintro e w' ⟨rfl, rfl⟩)
        go_ret
        exact ⟨by rw [H.out]; rfl, rfl⟩
      · have H := Lib.hid (show hostB c = true by have := HBF.out; rw [decide_eq_false h4] at this; simpa using this.symm)
        have h5 : 0 ≤ k := by omega
        go_wp2_with (go_at_call 52; refine (HFD.out _).mono ?_; rintro e w' ⟨rfl, rfl⟩)
        go_round
        case rel => exact ⟨i + 1, by go_num, by omega, by rw [HT.out, H.out]⟩
        case measure => simp [intOf]; omega
    · obtain rfl : i = l.length := by omega
      have h := HA.out
      rw [List.take_length] at h
      have hfin : hostL l = (decide (1 ≤ l.length) && decide (l.length ≤ 100)) := by unfold hostL; rw [h, Bool.and_true]
      have HF := Lib.hid hfin
      clear h hfin
      by_cases h1 : 1 ≤ l.length
      · by_cases h2 : l.length ≤ 100
        · have H := Lib.hid (show hostL l = true by rw [HF.out]; simp [h1, h2])
          go_wp2
          go_ret
          exact ⟨by rw [H.out]; first | rfl | (simp; omega), rfl⟩
        · have H := Lib.hid (show hostL l = false by rw [HF.out]; simp [h2])
          go_wp2
          go_ret
          exact ⟨by rw [H.out]; first | rfl | (simp; omega), rfl⟩
      · have H := Lib.hid (show hostL l = false by rw [HF.out]; simp; omega)
        go_wp2
        go_ret
        exact ⟨by rw [H.out]; first | rfl | (simp; omega), rfl⟩
end Go.Proofs.YtgjemgilanhdiaaGreatDoor
namespace Go.Proofs.YtgjemgilanhdiaaGreatDoor
open Go.RowKit Go.Sort Go.Shelf
set_option linter.unusedVariables false

structure Laid (w : World) : Prop where
  pow : Lib.TabIs Tryz.prog w "internal/strconv.uint64pow10" .u64 Lib.pow10Tab
theorem gPow : Tryz.prog.globalNamed "internal/strconv.uint64pow10" = some 3 := by kernel_rfl
theorem Laid.on {w w' : World} (h : Laid w) (hb : Below w.heap.size w w') : Laid w' :=
  ⟨Joins.tab_stays gPow h.pow hb (Nat.le_refl _)⟩

set_option maxHeartbeats 800000 in
theorem fmt10_small (n : Nat) (hn : n < 100) (w : World) : Calls Tryz.prog 110 #[.int .u64 n, .int .i64 10] w fun e w' => e = .returned (.string (S (Lib.decDigits n))) ∧ Below w.heap.size w w' := by
  go_enter Tryz.func110, Tryz.ntmps110
  go_wp2_with (go_at_call 112; refine (Tryz.internal_strconv_small n hn _).mono ?_; rintro e w' ⟨rfl, rfl⟩)
  go_ret
  exact ⟨rfl, by (repeat (first | with_reducible exact Below.refl _ _ | with_reducible assumption | with_reducible refine Below.drew ?_ | (with_reducible refine Below.setCell ?_ ?_ _; rotate_left; (first | omega | (simp <;> omega))) | (with_reducible refine Below.alloc ?_ ?_ _; rotate_left; (first | omega | (simp <;> omega))) | exact Below.refl _ _ | assumption))⟩

set_option maxHeartbeats 3200000 in
set_option maxRecDepth 100000 in
theorem fmt10_big (u : Nat) (hs : 100 ≤ u) (hu64 : u < 18446744073709551616) (w : World) (hL : Laid w) : Calls Tryz.prog 110 #[.int .u64 u, .int .i64 10] w fun e w' => e = .returned (.string (S (Lib.decDigits u))) ∧ Below w.heap.size w w' := by
  have hu1 : 1 ≤ u := by omega
  have hnd20 : Lib.nDigits u ≤ 20 := by have := Lib.numDigits_eq u hu1 hu64; split at this <;> omega
  have hal : Tryz.prog.arrayLen 117 = 24 := by simp [Program.arrayLen, Tryz.underlying117]
  have hsl1 : ∀ W, (Instr.sliceAt 117 (.pointer (some ⟨w.heap.size, 0, none⟩)) none (some (.int .i64 (Lib.nDigits u : Int))) none).run Tryz.prog W = .ok (.slice (some ⟨w.heap.size, 0, none⟩) (Lib.nDigits u) 24) W := fun W => by
    rw [run_sliceAt_array_h W 117 ⟨w.heap.size, 0, none⟩ (by simp [Program.arrayLen, Program.elem, Tryz.underlying117]) .i64 (Lib.nDigits u : Int) (by omega) (by rw [hal]; omega)]
    go_simp
  have hz24 : ∀ w, (zeroValue 117).run Tryz.prog w = .ok (.agg Lib.zeros24) w := fun _ => by kernel_rfl
  have hH0 : Holds (fun (b : UInt8) => Value.int .u8 (b.toNat : Int)) (w.alloc (.cells Lib.zeros24 117)) w.heap.size 0 (Array.replicate (Lib.nDigits u) (0 : UInt8)) := fun j hj => by
    have hj' : j < Lib.nDigits u := by simpa using hj
    rw [World.cell?_alloc_new, Nat.zero_add, Lib.zeros24_at j (by omega)]
    simp [hj']
  have hfmt := Tryz.internal_strconv_formatBase10 w.heap.size 0 24 u (Array.replicate (Lib.nDigits u) 0) (w.alloc (.cells Lib.zeros24 117)) hH0 (by rw [Array.size_replicate]; exact Lib.lt_pow_nDigits u) hu64 (by rw [Array.size_replicate]; omega)
  rw [Array.size_replicate] at hfmt
  have HH0 := Lib.hid hH0
  clear hH0 hal
  go_enter Tryz.func110, Tryz.ntmps110
  go_wp2_with (go_at_call 113; refine (Tryz.internal_strconv_numDigits u hu1 hu64 _ (Lib.tabIs_alloc hL.pow _)).mono ?_; rintro e w' ⟨rfl, rfl⟩)
  refine hfmt.mono ?_
  rintro e w' ⟨rfl, k, v', dk, rfl, hF⟩
  have hcv : (convert 66 9 (.slice (some ⟨w.heap.size, 0, none⟩) (Lib.nDigits u) 24)).run Tryz.prog ((putRow (fun (b : UInt8) => Value.int .u8 (b.toNat : Int)) (w.alloc (.cells Lib.zeros24 117)) w.heap.size 0 dk).drewN k) = .ok (.string ⟨(Lib.decDigits u).toArray⟩) ((putRow (fun (b : UInt8) => Value.int .u8 (b.toNat : Int)) (w.alloc (.cells Lib.zeros24 117)) w.heap.size 0 dk).drewN k) := by
    have h := run_convert_bytes_back (P := Tryz.prog) ((putRow (fun (b : UInt8) => Value.int .u8 (b.toNat : Int)) (w.alloc (.cells Lib.zeros24 117)) w.heap.size 0 dk).drewN k) 66 9 5 ⟨w.heap.size, 0, none⟩ 24 (Lib.decDigits u) Tryz.underlying66 Tryz.underlying5 Tryz.underlying9 (fun j hj => by
      rw [Lib.row_is_numeral hF j hj, Lib.add_plain, World.cell?_drewN]
      exact cell?_putRow (fun (b : UInt8) => Value.int .u8 (b.toNat : Int)) _ w.heap.size 0 _ dk HH0.out (by rw [hF.size, Array.size_replicate]) j (by rw [hF.size]; rw [Lib.decDigits_length] at hj; exact hj))
    rw [Lib.decDigits_length] at h
    exact h
  go_wp2
  go_ret
  refine ⟨rfl, ?_⟩
  obtain ⟨os, eos⟩ := Lib.fin_at w (.cells Lib.zeros24 117) dk k 0
  rw [eos]
  exact Lib.below_grow _ w (Nat.le_refl _) k os
set_option maxHeartbeats 800000 in
theorem decC (n : Nat) (hn : n < 18446744073709551616) (w : World) (hL : Laid w) : Calls Tryz.prog 98 #[.int .u64 n] w fun e w' => e = .returned (.string (S (Lib.decDigits n))) ∧ Below w.heap.size w w' := by
  have hc : Calls Tryz.prog 110 #[.int .u64 n, .int .i64 10] w fun e w' => e = .returned (.string (S (Lib.decDigits n))) ∧ Below w.heap.size w w' := by
    by_cases h : n < 100
    · exact fmt10_small n h w
    · exact fmt10_big n (by omega) hn w hL
  clear hL
  go_enter Tryz.func98, Tryz.ntmps98
  go_wp2_with (first | (go_at_call 110; refine hc.mono ?_; rintro e w' ⟨rfl, hb⟩) | go_in)
  go_ret
  exact ⟨rfl, by assumption⟩

def decDig (d : Nat) : UInt8 := (48 + d).toUInt8
theorem digits10_at (d : Nat) (h : d < 10) : ([48, 49, 50, 51, 52, 53, 54, 55, 56, 57, 97, 98, 99, 100, 101, 102].take (d + 1)).drop d = [decDig d] := by
  have : ∀ d : Fin 10, (([48, 49, 50, 51, 52, 53, 54, 55, 56, 57, 97, 98, 99, 100, 101, 102] : List UInt8).take (d.val + 1)).drop d.val = [decDig d.val] := by decide
  exact this ⟨d, h⟩
theorem decDigits_ten {u : Nat} (h : ¬ u < 10) : Lib.decDigits u = Lib.decDigits (u / 10) ++ [decDig (u % 10)] := by
  rw [Lib.decDigits, dif_neg h]
  rfl
theorem decDigits_lt {u : Nat} (h : u < 10) : Lib.decDigits u = [decDig u] := by
  rw [Lib.decDigits_one h]
  rfl

set_option maxHeartbeats 800000 in
set_option maxRecDepth 100000 in
theorem digitsDec (n : Nat) (hn : n < 18446744073709551616) (w : World) : Calls Tryz.prog 81 #[.int .u64 n, .int .u64 10] w fun e w' => e = .returned (.string (S (Lib.decDigits n))) ∧ Below w.heap.size w w' := by
  have hlen : (Lib.decDigits n).length ≤ 20 := by
    rw [Lib.decDigits_length]; exact Lib.nDigits_le20 n hn
  have HLEN := Lib.hid hlen
  clear hlen
  go_enter Tryz.func81, Tryz.ntmps81
  go_wp2
  simp only [mk_S]
  go_loopw [0, 5] (fun nv ov wr => ∃ u : Nat, ∃ t : List UInt8, u < 18446744073709551616 ∧ nv = .int .u64 u ∧ ov = .string (S t) ∧ Lib.decDigits n = (if u = 0 ∧ t ≠ [] then [] else Lib.decDigits u) ++ t ∧ Below w.heap.size w wr) (fun nv ov _ => (intOf nv).toNat + (1 - strLen ov))
  case atStart => exact ⟨n, [], hn, rfl, rfl, by simp, by (repeat (first | with_reducible exact Below.refl _ _ | with_reducible assumption | with_reducible refine Below.drew ?_ | (with_reducible refine Below.setCell ?_ ?_ _; rotate_left; (first | omega | (simp <;> omega))) | (with_reducible refine Below.alloc ?_ ?_ _; rotate_left; (first | omega | (simp <;> omega))) | exact Below.refl _ _ | assumption))⟩
  case round =>
    obtain ⟨u, t, hu, rfl, rfl, hD, hB⟩ := hrel
    have htl : t.length ≤ 20 := by
      have := congrArg List.length hD
      have h2 := HLEN.out
      simp only [List.length_append] at this
      omega
    by_cases hgo : u = 0 ∧ t ≠ []
    · obtain ⟨rfl, ht⟩ := hgo
      have hne : t.isEmpty = false := by
        cases t with
        | nil => exact absurd rfl ht
        | cons a t => rfl
      rw [if_pos ⟨rfl, ht⟩, List.nil_append] at hD
      have HD := Lib.hid hD
      clear hD
      go_wp2
      go_ret
      exact ⟨by rw [HD.out]; rfl, by assumption⟩
    · have hr : u % 10 < 10 := by omega
      have hsl := digits10_at (u % 10) hr
      rw [if_neg hgo] at hD
      have hstep : Lib.decDigits u = (if u / 10 = 0 ∧ decDig (u % 10) :: t ≠ [] then [] else Lib.decDigits (u / 10)) ++ [decDig (u % 10)] := by
        by_cases hs : u < 10
        · have e1 : u / 10 = 0 := by omega
          have e2 : u % 10 = u := by omega
          rw [if_pos ⟨e1, by simp⟩, e2, List.nil_append]
          exact decDigits_lt hs
        · rw [if_neg (by intro h; omega)]
          exact decDigits_ten hs
      have HD := Lib.hid hD
      have HS := Lib.hid hstep
      clear hD hstep
      obtain ⟨r, hrr⟩ : ∃ r, u % 10 = r := ⟨_, rfl⟩
      obtain ⟨q, hqq⟩ : ∃ q, u / 10 = q := ⟨_, rfl⟩
      have hri : (u : Int) % 10 = (r : Int) := by omega
      have hqi : (u : Int) / 10 = (q : Int) := by omega
      rw [hrr] at hr hsl HS
      rw [hqq] at HS
      simp only [List.take_succ_cons] at hsl
      by_cases hu0 : u = 0
      · have ht0 : t = [] := by
          cases t with
          | nil => rfl
          | cons a t => exact absurd ⟨hu0, by simp⟩ hgo
        subst hu0
        subst ht0
        go_wp2_with go_region
        all_goals (try go_wp2)
        all_goals (go_roundw)
        case rel => exact ⟨0, [48], by omega, rfl, rfl, by rw [HD.out, HS.out, ← hqq, ← hrr]; simp [decDig], by (repeat (first | with_reducible exact Below.refl _ _ | with_reducible assumption | with_reducible refine Below.drew ?_ | (with_reducible refine Below.setCell ?_ ?_ _; rotate_left; (first | omega | (simp <;> omega))) | (with_reducible refine Below.alloc ?_ ?_ _; rotate_left; (first | omega | (simp <;> omega))) | exact Below.refl _ _ | assumption))⟩
        case measure => simp [intOf, strLen_S]
      · go_wp2_with go_region
        all_goals (try go_wp2)
        all_goals (go_roundw)
        case rel => exact ⟨q, decDig r :: t, by omega, by go_num, rfl, by rw [HD.out, HS.out]; simp, by (repeat (first | with_reducible exact Below.refl _ _ | with_reducible assumption | with_reducible refine Below.drew ?_ | (with_reducible refine Below.setCell ?_ ?_ _; rotate_left; (first | omega | (simp <;> omega))) | (with_reducible refine Below.alloc ?_ ?_ _; rotate_left; (first | omega | (simp <;> omega))) | exact Below.refl _ _ | assumption))⟩
        case measure => simp [intOf, strLen_S]; omega
end Go.Proofs.YtgjemgilanhdiaaGreatDoor
