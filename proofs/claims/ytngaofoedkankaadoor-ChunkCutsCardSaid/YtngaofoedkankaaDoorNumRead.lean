/- Numbers read from digits: the walks of read[uint64], read[int64] and of the functions that tell a digit's value. -/
import Derived.Test.YtngaofoedkankaaDoorNumFmt
namespace Go.Proofs.YtngaofoedkankaaDoor
open Go.RowKit Go.Sort Go.Shelf
set_option linter.unusedVariables false

/-- A digit's value, by the byte's number. -/
def decV (n : Nat) : Nat := if 48 ≤ n then n - 48 else n + 208
def hexV (n : Nat) : Nat := if 48 ≤ n ∧ n ≤ 57 then n - 48 else if 65 ≤ n ∧ n ≤ 70 then n - 55 else if 97 ≤ n ∧ n ≤ 102 then n - 87 else 16
def refV (n : Nat) : Nat := if 48 ≤ n ∧ n ≤ 57 then n - 48 else if 65 ≤ n ∧ n ≤ 70 then n - 55 else if 97 ≤ n ∧ n ≤ 102 then n - 87 else 99
/-- The value of a row of digits. -/
def valN (v : Nat → Nat) (b : Nat) (l : List UInt8) : Nat := l.foldl (fun n c => n * b + v c.toNat) 0
/-- Is there a byte that is no digit? -/
def badN (v : Nat → Nat) (b : Nat) (l : List UInt8) : Bool := l.any fun c => decide (b ≤ v c.toNat)
def readN (v : Nat → Nat) (b : Nat) (l : List UInt8) : Nat × Nat :=
  if l = [] ∨ badN v b l = true then (0, 10) else if 1099511627776 < valN v b l then (0, 2) else (valN v b l, 0)

theorem valN_snoc (v : Nat → Nat) (b : Nat) (l : List UInt8) (c : UInt8) : valN v b (l ++ [c]) = valN v b l * b + v c.toNat := by simp [valN]
theorem badN_snoc (v : Nat → Nat) (b : Nat) (l : List UInt8) (c : UInt8) : badN v b (l ++ [c]) = (badN v b l || decide (b ≤ v c.toNat)) := by simp [badN]
theorem badN_at {v : Nat → Nat} {b : Nat} {l : List UInt8} {k : Nat} (h : k < l.length) (hb : b ≤ v l[k].toNat) : badN v b l = true := by
  unfold badN
  rw [List.any_eq_true]
  exact ⟨l[k], List.getElem_mem h, by simpa using hb⟩

theorem step_over {n b d q V M : Nat} {lg : Bool} (hb : 1 ≤ b) (hq : n * b = q) (hl : lg = decide (M < V)) (hv : lg = false → n = V) :
    (M < q + d → M < V * b + d) ∧ (q + d ≤ M → lg = decide (M < V * b + d) ∧ (lg = false → q + d = V * b + d)) := by
  cases lg with
  | false =>
    have e := hv rfl
    subst e
    rw [hq]
    exact ⟨id, fun h => ⟨by symm; rw [decide_eq_false_iff_not]; omega, fun _ => rfl⟩⟩
  | true =>
    have h1 : M < V := by simpa using hl.symm
    have h2 : V ≤ V * b := Nat.le_mul_of_pos_right V hb
    exact ⟨fun _ => by omega, fun _ => ⟨by symm; rw [decide_eq_true_iff]; omega, fun h => by cases h⟩⟩
theorem readN_long {v : Nat → Nat} {b : Nat} {l : List UInt8} (h0 : l ≠ []) (hb : badN v b l = false) (h : 1099511627776 < valN v b l) : readN v b l = (0, 2) := by
  unfold readN
  rw [if_neg (by simp [h0, hb]), if_pos h]
theorem readN_ok {v : Nat → Nat} {b : Nat} {l : List UInt8} (h0 : l ≠ []) (hb : badN v b l = false) (h : ¬ 1099511627776 < valN v b l) : readN v b l = (valN v b l, 0) := by
  unfold readN
  rw [if_neg (by simp [h0, hb]), if_neg h]
theorem readN_bad {v : Nat → Nat} {b : Nat} {l : List UInt8} (hb : badN v b l = true) : readN v b l = (0, 10) := by
  unfold readN
  rw [if_pos (Or.inr hb)]

theorem dec_call (W : World) (n : Nat) (hn : n < 256) : Calls Tryd.prog 111 #[.int .u8 n] W fun e w' => e = .returned (.int .u64 (decV n)) ∧ w' = W := by
  have h1 : IntKind.u8.wrap ((n : Int) - 48) = (decV n : Int) := by
    unfold decV
    rw [IntKind.wrap_u8]
    split <;> omega
  have h2 : IntKind.u64.wrap (decV n : Int) = (decV n : Int) := by
    have : decV n < 256 := by unfold decV; split <;> omega
    rw [IntKind.wrap_u64]; omega
  go_enter Tryd.func111, Tryd.ntmps111
  go_wp2
  go_ret
  exact ⟨rfl, rfl⟩

set_option maxHeartbeats 800000 in
set_option maxRecDepth 100000 in
theorem read64 (g : Nat) (v : Nat → Nat) (b : Nat) (hb1 : 1 ≤ b) (hb2 : b ≤ 16) (hv : ∀ n, n < 256 → v n < 256)
    (eg : ∀ args w, (callFunc g args).run Tryd.prog w = .ok (.enter g args) w)
    (hcl : ∀ W (n : Nat), n < 256 → Calls Tryd.prog g #[.int .u8 n] W fun e w' => e = .returned (.int .u64 (v n)) ∧ w' = W)
    (l : List UInt8) (hl : l.length ≤ 4611686018427387903) (w : World) :
    Calls Tryd.prog 65 #[.string (S l), .int .u64 b, .func (.func g) #[] #[]] w fun e w' =>
      e = .returned (.tuple #[.int .u64 (readN v b l).1, .int .i64 (readN v b l).2]) ∧ w' = w := by
  have HC := Lib.hid hcl
  clear hcl
  by_cases h0 : l = []
  · subst h0
    have e1 : readN v b [] = (0, 10) := by simp [readN]
    go_enter Tryd.func65, Tryd.ntmps65
    go_wp2
    go_ret2
    rw [e1]
    exact ⟨rfl, rfl⟩
  have hne : l.isEmpty = false := by
    cases l with
    | nil => exact absurd rfl h0
    | cons a t => rfl
  have HN := Lib.hid h0
  clear h0
  go_enter Tryd.func65, Tryd.ntmps65
  go_wp2
  go_loop [8, 9, 17] (fun nv lv iv => ∃ k n : Nat, ∃ lg : Bool, k ≤ l.length ∧ nv = .int .u64 n ∧ lv = .bool lg ∧ iv = .int .i64 k ∧ n ≤ 1099511627776 ∧ badN v b (l.take k) = false ∧
      lg = decide (1099511627776 < valN v b (l.take k)) ∧ (lg = false → n = valN v b (l.take k))) (fun _ _ iv => l.length - (intOf iv).toNat)
  case atStart => exact ⟨0, 0, false, Nat.zero_le _, rfl, rfl, rfl, by omega, rfl, by simp [valN], fun _ => rfl⟩
  case round =>
    obtain ⟨k, n, lg, hk, rfl, rfl, rfl, hn, hbad, hlg, hval⟩ := hrel
    by_cases hlt : k < l.length
    · have hbk : bAt l k = (l[k].toNat : Int) := bAt_eq hlt
      obtain ⟨m, hm⟩ : ∃ m, l[k].toNat = m := ⟨_, rfl⟩
      have hm256 : m < 256 := by rw [← hm]; exact l[k].toNat_lt
      have hvm := hv m hm256
      rw [hm] at hbk
      have hcall := HC.out w m hm256
      have htk : valN v b (l.take (k + 1)) = valN v b (l.take k) * b + v m := by
        rw [List.take_succ_eq_append_getElem hlt, valN_snoc, hm]
      have htb : badN v b (l.take (k + 1)) = (badN v b (l.take k) || decide (b ≤ v m)) := by
        rw [List.take_succ_eq_append_getElem hlt, badN_snoc, hm]
      have hbd : b ≤ v m → badN v b l = true := fun h => badN_at hlt (by rw [hm]; exact h)
      obtain ⟨d, hd⟩ : ∃ d, v m = d := ⟨_, rfl⟩
      rw [hd] at hcall hvm htk htb hbd
      have HT := Lib.hid htk
      have HTB := Lib.hid htb
      have HB := Lib.hid hbad
      have HL := Lib.hid hlg
      have HV := Lib.hid hval
      have HBD := Lib.hid hbd
      have HD := Lib.hid hd
      clear htk htb hbad hlg hval hm hd hbd
      have hmul : n * b ≤ 1099511627776 * 16 := Nat.mul_le_mul hn hb2
      obtain ⟨q, hq⟩ : ∃ q, n * b = q := ⟨_, rfl⟩
      have hqi : (n : Int) * (b : Int) = (q : Int) := by rw [← hq]; simp
      rw [hq] at hmul
      by_cases hge : b ≤ d
      · go_wp2_with (go_at_fn g; refine hcall.mono ?_; rintro e w' ⟨rfl, rfl⟩)
        go_ret2
        have e1 : readN v b l = (0, 10) := by unfold readN; rw [if_pos (Or.inr (HBD.out hge))]
        rw [e1]
        exact ⟨rfl, rfl⟩
      · have hbad2 : badN v b (l.take (k + 1)) = false := by rw [HTB.out, HB.out]; simp; omega
        by_cases hgt : 1099511627776 < q + d
        · go_wp2_with (go_at_fn g; refine hcall.mono ?_; rintro e w' ⟨rfl, rfl⟩)
          go_round
          case rel =>
            refine ⟨k + 1, 0, true, by omega, rfl, rfl, by go_num, by omega, hbad2, ?_, fun h => by cases h⟩
            rw [HT.out]; symm; rw [decide_eq_true_iff]
            exact (step_over hb1 hq HL.out HV.out).1 hgt
          case measure => simp [intOf]; omega
        · go_wp2_with (go_at_fn g; refine hcall.mono ?_; rintro e w' ⟨rfl, rfl⟩)
          go_round
          case rel =>
            obtain ⟨s1, s2⟩ := (step_over hb1 hq HL.out HV.out).2 (Nat.le_of_not_lt hgt)
            refine ⟨k + 1, q + d, lg, by omega, by go_num, rfl, by go_num, by omega, hbad2, ?_, ?_⟩
            · rw [HT.out]; exact s1
            · rw [HT.out]; exact s2
          case measure => simp [intOf]; omega
    · have hkl : k = l.length := by omega
      subst hkl
      rw [List.take_length] at hbad hlg hval
      cases lg with
      | true =>
        have e1 : readN v b l = (0, 2) := readN_long HN.out hbad (by simpa using hlg.symm)
        clear hlg hval hbad
        go_wp2
        go_ret2
        exact ⟨rfl, rfl⟩
      | false =>
        have e1 : readN v b l = (n, 0) := by
          rw [readN_ok HN.out hbad (by simpa using hlg.symm), hval rfl]
        clear hlg hval hbad
        go_wp2
        go_ret2
        exact ⟨rfl, rfl⟩

theorem hex_call (W : World) (n : Nat) (hn : n < 256) : Calls Tryd.prog 66 #[.int .u8 n] W fun e w' => e = .returned (.int .u64 (hexV n)) ∧ w' = W := by
  by_cases h1 : 48 ≤ n
  · by_cases h2 : n ≤ 57
    · have e1 : hexV n = n - 48 := by unfold hexV; rw [if_pos ⟨h1, h2⟩]
      have e2 : ((n - 48 : Nat) : Int) = (n : Int) - 48 := by omega
      rw [e1, e2]
      go_enter Tryd.func66, Tryd.ntmps66
      go_wp2
      go_ret
      exact ⟨rfl, rfl⟩
    · by_cases h3 : 65 ≤ n
      · by_cases h4 : n ≤ 70
        · have e1 : hexV n = n - 55 := by unfold hexV; rw [if_neg (by omega), if_pos ⟨h3, h4⟩]
          have e2 : ((n - 55 : Nat) : Int) = (n : Int) - 65 + 10 := by omega
          rw [e1, e2]
          go_enter Tryd.func66, Tryd.ntmps66
          go_wp2
          go_ret
          exact ⟨rfl, rfl⟩
        · by_cases h5 : 97 ≤ n
          · by_cases h6 : n ≤ 102
            · have e1 : hexV n = n - 87 := by unfold hexV; rw [if_neg (by omega), if_neg (by omega), if_pos ⟨h5, h6⟩]
              have e2 : ((n - 87 : Nat) : Int) = (n : Int) - 97 + 10 := by omega
              rw [e1, e2]
              go_enter Tryd.func66, Tryd.ntmps66
              go_wp2
              go_ret
              exact ⟨rfl, rfl⟩
            · have e1 : hexV n = 16 := by unfold hexV; rw [if_neg (by omega), if_neg (by omega), if_neg (by omega)]
              rw [e1]
              go_enter Tryd.func66, Tryd.ntmps66
              go_wp2
              go_ret
              exact ⟨rfl, rfl⟩
          · have e1 : hexV n = 16 := by unfold hexV; rw [if_neg (by omega), if_neg (by omega), if_neg (by omega)]
            rw [e1]
            go_enter Tryd.func66, Tryd.ntmps66
            go_wp2
            go_ret
            exact ⟨rfl, rfl⟩
      · have e1 : hexV n = 16 := by unfold hexV; rw [if_neg (by omega), if_neg (by omega), if_neg (by omega)]
        rw [e1]
        go_enter Tryd.func66, Tryd.ntmps66
        go_wp2
        go_ret
        exact ⟨rfl, rfl⟩
  · have e1 : hexV n = 16 := by unfold hexV; rw [if_neg (by omega), if_neg (by omega), if_neg (by omega)]
    rw [e1]
    go_enter Tryd.func66, Tryd.ntmps66
    go_wp2
    go_ret
    exact ⟨rfl, rfl⟩
theorem decV_lt (n : Nat) (h : n < 256) : decV n < 256 := by unfold decV; split <;> omega
theorem hexV_lt (n : Nat) (h : n < 256) : hexV n < 256 := by unfold hexV; split <;> (try split) <;> (try split) <;> omega

/-- number.ReadDec. -/
theorem readDec (l : List UInt8) (hl : l.length ≤ 4611686018427387903) (w : World) : Calls Tryd.prog 99 #[.string (S l)] w fun e w' =>
      e = .returned (.tuple #[.int .u64 (readN decV 10 l).1, .int .i64 (readN decV 10 l).2]) ∧ w' = w := by
  have hc := read64 111 decV 10 (by omega) (by omega) decV_lt (enters_of Tryd.func111 (by kernel_rfl) rfl) dec_call l hl w
  go_enter Tryd.func99, Tryd.ntmps99
  go_wp2_with (go_at_call 65; refine hc.mono ?_; rintro e w' ⟨rfl, rfl⟩)
  go_ret2
  exact ⟨rfl, rfl⟩
theorem readHex (l : List UInt8) (hl : l.length ≤ 4611686018427387903) (w : World) : Calls Tryd.prog 53 #[.string (S l)] w fun e w' =>
      e = .returned (.tuple #[.int .u64 (readN hexV 16 l).1, .int .i64 (readN hexV 16 l).2]) ∧ w' = w := by
  have hc := read64 66 hexV 16 (by omega) (by omega) hexV_lt (enters_of Tryd.func66 (by kernel_rfl) rfl) hex_call l hl w
  go_enter Tryd.func53, Tryd.ntmps53
  go_wp2_with (go_at_call 65; refine hc.mono ?_; rintro e w' ⟨rfl, rfl⟩)
  go_ret2
  exact ⟨rfl, rfl⟩

theorem readN_le (v : Nat → Nat) (b : Nat) (l : List UInt8) : (readN v b l).1 ≤ 1099511627776 := by
  unfold readN
  split
  · exact Nat.zero_le _
  · split
    · exact Nat.zero_le _
    · show valN v b l ≤ _; omega
end Go.Proofs.YtngaofoedkankaaDoor
