/- The document's find, Bytes, host: the walks. -/
import Derived.Test.YtpglgembgpoeiaaDoorUriBytes
namespace Go.Proofs.YtpglgembgpoeiaaDoor
open Go.RowKit Go.Sort Go.Shelf
set_option linter.unusedVariables false

set_option maxHeartbeats 800000 in
theorem refFind (l : List UInt8) (c : UInt8) (hl : l.length ≤ 4611686018427387903) (w : World) : Calls Tryd.prog 23 #[.string (S l), .int .u8 (c.toNat : Int)] w fun e w' => e = .returned (.int .i64 (Lib.indexByte l c)) ∧ w' = w := by
  rw [← idxFrom_zero]
  have hc256 := c.toNat_lt
  have HB := Lib.hid (show ∀ d : UInt8, (d = c ↔ (d.toNat : Int) = (c.toNat : Int)) from fun d => ⟨fun e => by rw [e], fun e => UInt8.toNat.inj (by omega)⟩)
  obtain ⟨ci, hci⟩ : ∃ ci : Int, (c.toNat : Int) = ci := ⟨_, rfl⟩
  have hci0 : 0 ≤ ci ∧ ci < 256 := by omega
  obtain ⟨hci0, hci1⟩ := hci0
  rw [hci] at HB ⊢
  clear hci hc256
  go_enter Tryd.func23, Tryd.ntmps23
  go_wp2
  go_loop [5] (fun iv => ∃ i : Nat, iv = .int .i64 i ∧ i ≤ l.length ∧ idxFrom l c 0 = idxFrom l c i) (fun iv => l.length - (intOf iv).toNat)
  case atStart => exact ⟨0, rfl, Nat.zero_le _, rfl⟩
  case round =>
    obtain ⟨i, rfl, hi, hidx⟩ := hrel
    have HI := Lib.hid hidx
    clear hidx
    by_cases hlt : i < l.length
    · by_cases hc : l[i] = c
      · have e1 : bAt l i = ci := by rw [bAt_eq hlt]; exact (HB.out _).1 hc
        have HF := Lib.hid (HI.out.trans (idxFrom_hit hlt hc))
        clear hc
        go_wp2
        go_ret
        exact ⟨by rw [HF.out]; rfl, rfl⟩
      · have e1 : ¬ bAt l i = ci := by rw [bAt_eq hlt]; exact fun e => hc ((HB.out _).2 e)
        have e2 : (bAt l i == ci) = false := by simpa using e1
        have HF := Lib.hid (HI.out.trans (idxFrom_miss hlt hc))
        clear hc
        go_wp2
        go_round
        case rel => exact ⟨i + 1, by go_num, by omega, HF.out⟩
        case measure => simp [intOf]; omega
    · obtain rfl : i = l.length := by omega
      have HF := Lib.hid (HI.out.trans (idxFrom_end l c))
      go_wp2
      go_ret
      exact ⟨by rw [HF.out]; rfl, rfl⟩

set_option maxHeartbeats 1600000 in
theorem refBytes (l : List UInt8) (hl : l.length ≤ 4611686018427387903) (w : World) : Calls Tryd.prog 29 #[.string (S l)] w fun e w' => e = .returned (.bool (!l.any badU)) ∧ w' = w := by
  go_enter Tryd.func29, Tryd.ntmps29
  go_wp2
  go_loop [3] (fun iv => ∃ i : Nat, iv = .int .i64 i ∧ i ≤ l.length ∧ (l.take i).any badU = false) (fun iv => l.length - (intOf iv).toNat)
  case atStart => exact ⟨0, rfl, Nat.zero_le _, rfl⟩
  case round =>
    obtain ⟨i, rfl, hi, hany⟩ := hrel
    have HA := Lib.hid hany
    clear hany
    by_cases hlt : i < l.length
    · have hbk : bAt l i = (l[i].toNat : Int) := bAt_eq hlt
      have htk : (l.take (i + 1)).any badU = badU l[i] := by
        rw [List.take_succ_eq_append_getElem hlt, List.any_append, HA.out]; simp
      have hyes : badU l[i] = true → l.any badU = true := fun h => List.any_eq_true.2 ⟨_, List.getElem_mem hlt, h⟩
      obtain ⟨c, hc⟩ : ∃ c, l[i] = c := ⟨_, rfl⟩
      rw [hc] at hbk htk hyes
      have hbf := bad_find c
      have hc256 := c.toNat_lt
      have hf := refFind sgnU9 c (by decide)
      unfold sgnU9 at hf hbf
      obtain ⟨k, hk⟩ : ∃ k, Lib.indexByte [34, 35, 60, 62, 92, 94, 123, 124, 125] c = k := ⟨_, rfl⟩
      rw [hk] at hf hbf
      have HFD := Lib.hid hf
      obtain ⟨n, hn⟩ : ∃ n, c.toNat = n := ⟨_, rfl⟩
      rw [hn] at hbk hbf hc256 HFD
      have HT := Lib.hid htk
      have HY := Lib.hid hyes
      have HBF := Lib.hid hbf
      clear htk hyes hc hk hf hn hbf
      by_cases h1 : n < 33
      · have H := Lib.hid (HY.out (by rw [← HBF.out]; simp [h1]))
        go_wp2
        go_ret
        exact ⟨by rw [H.out]; rfl, rfl⟩
      · by_cases h2 : 126 < n
        · have H := Lib.hid (HY.out (by rw [← HBF.out]; simp [h2]))
          go_wp2
          go_ret
          exact ⟨by rw [H.out]; rfl, rfl⟩
        · have h2' : (n : Int) ≤ 126 := by omega
          by_cases h3 : n = 96
          · have H := Lib.hid (HY.out (by rw [← HBF.out]; simp [h3]))
            subst h3
            go_wp2
            go_ret
            exact ⟨by rw [H.out]; rfl, rfl⟩
          · have h3' : ((n : Int) == 96) = false := by simp; omega
            by_cases h4 : 0 ≤ k
            · have H := Lib.hid (HY.out (by rw [← HBF.out]; simp [h4]))
              go_wp2_with (go_at_call 23; refine (HFD.out _).mono ?_; rintro e w' ⟨rfl, rfl⟩)
              go_ret
              exact ⟨by rw [H.out]; rfl, rfl⟩
            · have H := Lib.hid (show badU c = false by rw [← HBF.out]; simp; omega)
              go_wp2_with (go_at_call 23; refine (HFD.out _).mono ?_; rintro e w' ⟨rfl, rfl⟩)
              go_round
              case rel => exact ⟨i + 1, by go_num, by omega, by rw [HT.out, H.out]⟩
              case measure => simp [intOf]; omega
    · obtain rfl : i = l.length := by omega
      have h := HA.out
      rw [List.take_length] at h
      have H := Lib.hid h
      clear h
      go_wp2
      go_ret
      exact ⟨by rw [H.out]; rfl, rfl⟩

set_option maxHeartbeats 1600000 in
theorem refHost (l : List UInt8) (hl : l.length ≤ 4611686018427387903) (w : World) : Calls Tryd.prog 30 #[.string (S l)] w fun e w' => e = .returned (.bool (hostL l)) ∧ w' = w := by
  go_enter Tryd.func30, Tryd.ntmps30
  go_wp2
  go_loop [3] (fun iv => ∃ i : Nat, iv = .int .i64 i ∧ i ≤ l.length ∧ (l.take i).all hostB = true) (fun iv => l.length - (intOf iv).toNat)
  case atStart => exact ⟨0, rfl, Nat.zero_le _, rfl⟩
  case round =>
    obtain ⟨i, rfl, hi, hall⟩ := hrel
    have HA := Lib.hid hall
    clear hall
    by_cases hlt : i < l.length
    · have hbk : bAt l i = (l[i].toNat : Int) := bAt_eq hlt
      have htk : (l.take (i + 1)).all hostB = hostB l[i] := by
        rw [List.take_succ_eq_append_getElem hlt, List.all_append, HA.out]; simp
      have hno : hostB l[i] = false → hostL l = false := fun h => by
        unfold hostL
        rw [List.all_eq_false.2 ⟨_, List.getElem_mem hlt, by simp [h]⟩, Bool.and_false]
      obtain ⟨c, hc⟩ : ∃ c, l[i] = c := ⟨_, rfl⟩
      rw [hc] at hbk htk hno
      have hbf := host_find c
      have hf := refFind hostAll c (by decide)
      unfold hostAll at hf hbf
      obtain ⟨k, hk⟩ : ∃ k, Lib.indexByte [97, 98, 99, 100, 101, 102, 103, 104, 105, 106, 107, 108, 109, 110, 111, 112, 113, 114, 115, 116, 117, 118, 119, 120, 121, 122, 48, 49, 50, 51, 52, 53, 54, 55, 56, 57, 45, 46] c = k := ⟨_, rfl⟩
      rw [hk] at hf hbf
      have HFD := Lib.hid hf
      have HT := Lib.hid htk
      have HN := Lib.hid hno
      have HBF := Lib.hid hbf
      clear htk hno hc hk hf hbf
      by_cases h4 : k < 0
      · have H := Lib.hid (HN.out (by have := HBF.out; rw [decide_eq_true h4] at this; simpa using this.symm))
        go_wp2_with (go_at_call 23; refine (HFD.out _).mono ?_; rintro e w' ⟨rfl, rfl⟩)
        go_ret
        exact ⟨by rw [H.out]; rfl, rfl⟩
      · have H := Lib.hid (show hostB c = true by have := HBF.out; rw [decide_eq_false h4] at this; simpa using this.symm)
        have h5 : 0 ≤ k := by omega
        go_wp2_with (go_at_call 23; refine (HFD.out _).mono ?_; rintro e w' ⟨rfl, rfl⟩)
        go_round
        case rel => exact ⟨i + 1, by go_num, by omega, by rw [HT.out, H.out]⟩
        case measure => simp [intOf]; omega
    · obtain rfl : i = l.length := by omega
      have h := HA.out
      rw [List.take_length] at h
      have hfin : hostL l = (decide (1 ≤ l.length) && decide (l.length ≤ 100)) := by unfold hostL; rw [h, Bool.and_true]
      have HF := Lib.hid hfin
      clear h hfin
      by_cases h1 : 1 ≤ l.length
      · by_cases h2 : l.length ≤ 100
        · have H := Lib.hid (show hostL l = true by rw [HF.out]; simp [h1, h2])
          go_wp2
          go_ret
          exact ⟨by rw [H.out]; first | rfl | (simp; omega), rfl⟩
        · have H := Lib.hid (show hostL l = false by rw [HF.out]; simp [h2])
          go_wp2
          go_ret
          exact ⟨by rw [H.out]; first | rfl | (simp; omega), rfl⟩
      · have H := Lib.hid (show hostL l = false by rw [HF.out]; simp; omega)
        go_wp2
        go_ret
        exact ⟨by rw [H.out]; first | rfl | (simp; omega), rfl⟩
end Go.Proofs.YtpglgembgpoeiaaDoor
