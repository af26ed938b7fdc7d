/- The document's answer for numbers: the walks of its functions, and that they say the same. -/
import Derived.Test.YtpglgembgpoeiaaDoorNumRead
namespace Go.Proofs.YtpglgembgpoeiaaDoor
open Go.RowKit Go.Sort Go.Shelf
set_option linter.unusedVariables false

theorem valN_congr {v v' : Nat → Nat} {b : Nat} (h : ∀ n, n < 256 → (b ≤ v n ↔ b ≤ v' n) ∧ (v n < b → v n = v' n)) (l : List UInt8) (hb : badN v b l = false) : valN v b l = valN v' b l := by
  unfold valN
  suffices H : ∀ (l : List UInt8) (a : Nat), badN v b l = false → l.foldl (fun n c => n * b + v c.toNat) a = l.foldl (fun n c => n * b + v' c.toNat) a from H l 0 hb
  intro l
  induction l with
  | nil => intro a _; rfl
  | cons c t ih =>
    intro a hb
    have hb' : decide (b ≤ v c.toNat) = false ∧ badN v b t = false := by simpa [badN] using hb
    have hc : v c.toNat < b := by have := hb'.1; simp at this; exact this
    simp only [List.foldl_cons]
    rw [(h c.toNat c.toNat_lt).2 hc]
    exact ih _ hb'.2
theorem badN_congr {v v' : Nat → Nat} {b : Nat} (h : ∀ n, n < 256 → (b ≤ v n ↔ b ≤ v' n) ∧ (v n < b → v n = v' n)) (l : List UInt8) : badN v b l = badN v' b l := by
  unfold badN
  induction l with
  | nil => rfl
  | cons c t ih =>
    simp only [List.any_cons]
    rw [ih, decide_eq_decide.mpr (h c.toNat c.toNat_lt).1]
theorem readN_congr {v v' : Nat → Nat} {b : Nat} (h : ∀ n, n < 256 → (b ≤ v n ↔ b ≤ v' n) ∧ (v n < b → v n = v' n)) (l : List UInt8) : readN v b l = readN v' b l := by
  unfold readN
  rw [badN_congr h l]
  by_cases h0 : l = [] ∨ badN v' b l = true
  · rw [if_pos h0, if_pos h0]
  · rw [if_neg h0, if_neg h0, valN_congr h l (by rw [badN_congr h l]; cases hx : badN v' b l <;> simp_all)]
theorem read_dec (l : List UInt8) : readN refV 10 l = readN decV 10 l := readN_congr (fun n hn => by unfold refV decV; (repeat' split) <;> omega) l
theorem read_hex (l : List UInt8) : readN refV 16 l = readN hexV 16 l := readN_congr (fun n hn => by unfold refV hexV; (repeat' split) <;> omega) l
theorem refV_lt (n : Nat) (h : n < 256) : refV n < 256 := by unfold refV; split <;> (try split) <;> (try split) <;> omega

theorem value_call (W : World) (n : Nat) (hn : n < 256) : Calls Tryd.prog 72 #[.int .u8 n] W fun e w' => e = .returned (.int .u64 (refV n)) ∧ w' = W := by
  by_cases h1 : 48 ≤ n
  · by_cases h2 : n ≤ 57
    · have e1 : refV n = n - 48 := by unfold refV; rw [if_pos ⟨h1, h2⟩]
      have e2 : ((n - 48 : Nat) : Int) = (n : Int) - 48 := by omega
      rw [e1, e2]
      go_enter Tryd.func72, Tryd.ntmps72
      go_wp2
      go_ret
      exact ⟨rfl, rfl⟩
    · by_cases h3 : 65 ≤ n
      · by_cases h4 : n ≤ 70
        · have e1 : refV n = n - 55 := by unfold refV; rw [if_neg (by omega), if_pos ⟨h3, h4⟩]
          have e2 : ((n - 55 : Nat) : Int) = (n : Int) - 65 + 10 := by omega
          rw [e1, e2]
          go_enter Tryd.func72, Tryd.ntmps72
          go_wp2
          go_ret
          exact ⟨rfl, rfl⟩
        · by_cases h5 : 97 ≤ n
          · by_cases h6 : n ≤ 102
            · have e1 : refV n = n - 87 := by unfold refV; rw [if_neg (by omega), if_neg (by omega), if_pos ⟨h5, h6⟩]
              have e2 : ((n - 87 : Nat) : Int) = (n : Int) - 97 + 10 := by omega
              rw [e1, e2]
              go_enter Tryd.func72, Tryd.ntmps72
              go_wp2
              go_ret
              exact ⟨rfl, rfl⟩
            · have e1 : refV n = 99 := by unfold refV; rw [if_neg (by omega), if_neg (by omega), if_neg (by omega)]
              rw [e1]
              go_enter Tryd.func72, Tryd.ntmps72
              go_wp2
              go_ret
              exact ⟨rfl, rfl⟩
          · have e1 : refV n = 99 := by unfold refV; rw [if_neg (by omega), if_neg (by omega), if_neg (by omega)]
            rw [e1]
            go_enter Tryd.func72, Tryd.ntmps72
            go_wp2
            go_ret
            exact ⟨rfl, rfl⟩
      · have e1 : refV n = 99 := by unfold refV; rw [if_neg (by omega), if_neg (by omega), if_neg (by omega)]
        rw [e1]
        go_enter Tryd.func72, Tryd.ntmps72
        go_wp2
        go_ret
        exact ⟨rfl, rfl⟩
  · have e1 : refV n = 99 := by unfold refV; rw [if_neg (by omega), if_neg (by omega), if_neg (by omega)]
    rw [e1]
    go_enter Tryd.func72, Tryd.ntmps72
    go_wp2
    go_ret
    exact ⟨rfl, rfl⟩

theorem valN_mono (v : Nat → Nat) (b : Nat) (hb : 1 ≤ b) (l : List UInt8) (k : Nat) : valN v b (l.take k) ≤ valN v b l := by
  have H : ∀ (t : List UInt8) (a : Nat), a ≤ t.foldl (fun n c => n * b + v c.toNat) a := by
    intro t
    induction t with
    | nil => intro a; exact Nat.le_refl _
    | cons c t ih =>
      intro a
      simp only [List.foldl_cons]
      exact Nat.le_trans (Nat.le_trans (Nat.le_mul_of_pos_right a hb) (Nat.le_add_right _ _)) (ih _)
  have e : valN v b l = (l.drop k).foldl (fun n c => n * b + v c.toNat) (valN v b (l.take k)) := by
    unfold valN
    rw [← List.foldl_append, List.take_append_drop]
  rw [e]
  exact H _ _

set_option maxHeartbeats 800000 in
set_option maxRecDepth 100000 in
theorem refRead (b : Nat) (hb1 : 1 ≤ b) (hb2 : b ≤ 16) (l : List UInt8) (hl : l.length ≤ 4611686018427387903) (w : World) :
    Calls Tryd.prog 48 #[.string (S l), .int .u64 b] w fun e w' =>
      e = .returned (.tuple #[.int .u64 (readN refV b l).1, .int .i64 (readN refV b l).2]) ∧ w' = w := by
  by_cases h0 : l = []
  · subst h0
    have e1 : readN refV b [] = (0, 10) := by simp [readN]
    go_enter Tryd.func48, Tryd.ntmps48
    go_wp2
    go_ret2
    rw [e1]
    exact ⟨rfl, rfl⟩
  have hne : l.isEmpty = false := by
    cases l with
    | nil => exact absurd rfl h0
    | cons a t => rfl
  have HN := Lib.hid h0
  clear h0
  go_enter Tryd.func48, Tryd.ntmps48
  go_wp2
  go_loop [6] (fun iv => ∃ k : Nat, k ≤ l.length ∧ iv = .int .i64 k ∧ badN refV b (l.take k) = false) (fun iv => l.length - (intOf iv).toNat)
  case atStart => exact ⟨0, Nat.zero_le _, rfl, rfl⟩
  case round =>
    obtain ⟨k, hk, rfl, hbad⟩ := hrel
    by_cases hlt : k < l.length
    · have hbk : bAt l k = (l[k].toNat : Int) := bAt_eq hlt
      obtain ⟨m, hm⟩ : ∃ m, l[k].toNat = m := ⟨_, rfl⟩
      have hm256 : m < 256 := by rw [← hm]; exact l[k].toNat_lt
      have hvm := refV_lt m hm256
      rw [hm] at hbk
      have hcall := value_call w m hm256
      have htb : badN refV b (l.take (k + 1)) = (badN refV b (l.take k) || decide (b ≤ refV m)) := by
        rw [List.take_succ_eq_append_getElem hlt, badN_snoc, hm]
      have hbd : b ≤ refV m → badN refV b l = true := fun h => badN_at hlt (by rw [hm]; exact h)
      obtain ⟨d, hd⟩ : ∃ d, refV m = d := ⟨_, rfl⟩
      rw [hd] at hcall hvm htb hbd
      have HTB := Lib.hid htb
      have HB := Lib.hid hbad
      have HBD := Lib.hid hbd
      clear htb hbad hm hd hbd
      by_cases hge : b ≤ d
      · go_wp2_with (go_at_call 72; refine hcall.mono ?_; rintro e w' ⟨rfl, rfl⟩)
        go_ret2
        rw [readN_bad (HBD.out hge)]
        exact ⟨rfl, rfl⟩
      · go_wp2_with (go_at_call 72; refine hcall.mono ?_; rintro e w' ⟨rfl, rfl⟩)
        go_round
        case rel => exact ⟨k + 1, by omega, by go_num, by rw [HTB.out, HB.out]; simp; omega⟩
        case measure => simp [intOf]; omega
    · have hkl : k = l.length := by omega
      subst hkl
      rw [List.take_length] at hbad
      have HB := Lib.hid hbad
      clear hbad
      go_wp2
      go_loop [7, 8] (fun nv iv => ∃ k n : Nat, k ≤ l.length ∧ nv = .int .u64 n ∧ iv = .int .i64 k ∧ n = valN refV b (l.take k) ∧ n ≤ 1099511627776) (fun _ iv => l.length - (intOf iv).toNat)
      case atStart => exact ⟨0, 0, Nat.zero_le _, rfl, rfl, rfl, by omega⟩
      case round =>
        obtain ⟨k, n, hk, rfl, rfl, hval, hn⟩ := hrel
        by_cases hlt : k < l.length
        · have hbk : bAt l k = (l[k].toNat : Int) := bAt_eq hlt
          obtain ⟨m, hm⟩ : ∃ m, l[k].toNat = m := ⟨_, rfl⟩
          have hm256 : m < 256 := by rw [← hm]; exact l[k].toNat_lt
          have hvm := refV_lt m hm256
          rw [hm] at hbk
          have hcall := value_call w m hm256
          have htk : valN refV b (l.take (k + 1)) = valN refV b (l.take k) * b + refV m := by
            rw [List.take_succ_eq_append_getElem hlt, valN_snoc, hm]
          obtain ⟨d, hd⟩ : ∃ d, refV m = d := ⟨_, rfl⟩
          rw [hd] at hcall hvm htk
          have hmul : n * b ≤ 1099511627776 * 16 := Nat.mul_le_mul hn hb2
          obtain ⟨q, hq⟩ : ∃ q, n * b = q := ⟨_, rfl⟩
          have hqi : (b : Int) * (n : Int) = (q : Int) := by rw [← hq, Int.mul_comm]; simp
          rw [hq] at hmul
          rw [← hval, hq] at htk
          have HT := Lib.hid htk
          have HV := Lib.hid hval
          clear htk hval hm hd
          by_cases hgt : 1099511627776 < q + d
          · go_wp2_with (go_at_call 72; refine hcall.mono ?_; rintro e w' ⟨rfl, rfl⟩)
            go_ret2
            rw [readN_long HN.out HB.out (Nat.lt_of_lt_of_le (by rw [HT.out]; exact hgt) (valN_mono refV b hb1 l (k + 1)))]
            exact ⟨rfl, rfl⟩
          · go_wp2_with (go_at_call 72; refine hcall.mono ?_; rintro e w' ⟨rfl, rfl⟩)
            go_round
            case rel => exact ⟨k + 1, q + d, by omega, by go_num, by go_num, HT.out.symm, by omega⟩
            case measure => simp [intOf]; omega
        · have hkl : k = l.length := by omega
          subst hkl
          rw [List.take_length] at hval
          have e1 : readN refV b l = (n, 0) := by rw [hval]; exact readN_ok HN.out HB.out (by omega)
          clear hval
          go_wp2
          go_ret2
          exact ⟨rfl, rfl⟩
end Go.Proofs.YtpglgembgpoeiaaDoor
