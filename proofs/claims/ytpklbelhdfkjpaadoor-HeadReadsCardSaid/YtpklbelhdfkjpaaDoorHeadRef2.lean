/- The document's End and Parse of a head: the walks. -/
import Derived.Test.YtpklbelhdfkjpaaDoorHeadRef
namespace Go.Proofs.YtpklbelhdfkjpaaDoor
open Go.RowKit Go.Sort Go.Shelf
set_option linter.unusedVariables false

theorem endH_cons (len : Nat) (x : List UInt8 × Nat) (r : List (List UInt8 × Nat)) : endH len (x :: r) = if 4000 < x.2 then (0, 2) else if x.1 = [] then (x.2, 0) else endH len r := rfl
set_option maxHeartbeats 1600000 in
set_option maxRecDepth 100000 in
theorem refEnd (s : List UInt8) (hs : s.length ≤ 1000000) (w : World) :
    Calls Tryd.prog 15 #[.string (S s)] w fun e w' => e = .returned (.tuple #[.int .i64 ((headEnd s).1 : Int), .int .i64 (headEnd s).2]) ∧ w' = w := by
  obtain ⟨⟨rn, re⟩, hres⟩ : ∃ x, headEnd s = x := ⟨_, rfl⟩
  rw [hres]
  simp only
  unfold headEnd at hres
  have HRES := Lib.hid hres
  clear hres
  have hs1 : (s.length : Int) ≤ 1000000 := by omega
  go_enter Tryd.func15, Tryd.ntmps15
  go_wp2
  go_loop [4] (fun av => ∃ k : Nat, av = .int .i64 k ∧ k ≤ s.length ∧ endH s.length (linesG k [] (s.drop k)) = (rn, re)) (fun av => s.length - (intOf av).toNat)
  case atStart => exact ⟨0, rfl, Nat.zero_le _, HRES.out⟩
  case round =>
    obtain ⟨k, rfl, hk, hres⟩ := hrel
    have e1 : (s.take s.length).drop k = s.drop k := by rw [List.take_length]
    have hdl : (s.drop k).length = s.length - k := List.length_drop
    by_cases hi : Lib.indexByte (s.drop k) 10 = -1
    · have FI := Lib.hid (fun W => find_S (l := s.drop k) (c := 10) (ci := 10) rfl (by omega) hi W)
      rw [linesG_none _ _ _ (idx10_none hi)] at hres
      have HR := Lib.hid (show (rn, re) = if 4000 < s.length then (0, 2) else (0, 3) from hres.symm)
      clear hres hi
      by_cases h4 : 4000 < s.length
      · have h4i : 4000 < (s.length : Int) := by omega
        go_wp2_with (go_at_call 26; refine (FI.out _).mono ?_; rintro e w' ⟨rfl, rfl⟩)
        go_ret2
        have h6 := HR.out
        rw [if_pos h4] at h6
        obtain ⟨rfl, rfl⟩ := Prod.mk.inj h6
        exact ⟨rfl, rfl⟩
      · have h4i : (s.length : Int) ≤ 4000 := by omega
        go_wp2_with (go_at_call 26; refine (FI.out _).mono ?_; rintro e w' ⟨rfl, rfl⟩)
        go_ret2
        have h6 := HR.out
        rw [if_neg h4] at h6
        obtain ⟨rfl, rfl⟩ := Prod.mk.inj h6
        exact ⟨rfl, rfl⟩
    · have hge := Lib.indexByte_ge (s.drop k) 10
      obtain ⟨i, hii⟩ : ∃ i : Nat, Lib.indexByte (s.drop k) 10 = i := ⟨(Lib.indexByte (s.drop k) 10).toNat, by omega⟩
      have FI := Lib.hid (fun W => find_S (l := s.drop k) (c := 10) (ci := 10) rfl (by omega) hii W)
      obtain ⟨hi1, -, -⟩ := idx10_parts hii
      rw [linesG_some hii, List.nil_append, endH_cons] at hres
      simp only at hres
      obtain ⟨u, hu, hul⟩ : ∃ u, (s.drop k).take i = u ∧ u.length = i := ⟨_, rfl, by rw [List.length_take]; omega⟩
      have e2 : (s.take (k + i)).drop k = u := by rw [← hu, List.drop_take]; congr 1; omega
      obtain ⟨b, hb⟩ : ∃ b, bare u = b := ⟨_, rfl⟩
      have BA := Lib.hid (fun W => refBare u b (by omega) hb W)
      rw [hu, hb] at hres
      have e3 : (s.drop k).drop (i + 1) = s.drop (k + i + 1) := by rw [List.drop_drop]; congr 1
      rw [e3] at hres
      have HR := Lib.hid hres.symm
      have HK := Lib.hid (show k + i + 1 ≤ s.length by omega)
      have hki : (k : Int) + (i : Int) < (s.length : Int) := by omega
      have hki2 : k + i ≤ s.length := by omega
      clear hres hi hge hii hu hb e3 hul hdl hi1 e1
      by_cases hq : 4000 < k + i + 1
      · have hq1 : (4000 : Int) < (k : Int) + (i : Int) + 1 := by omega
        go_wp2_with (first
          | (go_at_call 26; refine (FI.out _).mono ?_; rintro e w' ⟨rfl, rfl⟩)
          | (go_at_call 27; refine (BA.out _).mono ?_; rintro e w' ⟨rfl, rfl⟩))
        go_ret2
        have h6 := HR.out
        rw [if_pos hq] at h6
        obtain ⟨rfl, rfl⟩ := Prod.mk.inj h6
        exact ⟨rfl, rfl⟩
      · have hq1 : (k : Int) + (i : Int) + 1 ≤ 4000 := by omega
        by_cases hbn : b = []
        · have hbe : b.isEmpty = true := by rw [hbn]; rfl
          have HBN := Lib.hid hbn
          clear hbn
          go_wp2_with (first
            | (go_at_call 26; refine (FI.out _).mono ?_; rintro e w' ⟨rfl, rfl⟩)
            | (go_at_call 27; refine (BA.out _).mono ?_; rintro e w' ⟨rfl, rfl⟩))
          go_ret2
          have h6 := HR.out
          rw [if_neg hq, if_pos HBN.out] at h6
          obtain ⟨rfl, rfl⟩ := Prod.mk.inj h6
          exact ⟨by simp <;> omega, rfl⟩
        · have hbe : b.isEmpty = false := by cases b with
            | nil => exact absurd rfl hbn
            | cons a t => rfl
          have HBN := Lib.hid hbn
          clear hbn
          go_wp2_with (first
            | (go_at_call 26; refine (FI.out _).mono ?_; rintro e w' ⟨rfl, rfl⟩)
            | (go_at_call 27; refine (BA.out _).mono ?_; rintro e w' ⟨rfl, rfl⟩))
          go_round
          case rel => exact ⟨k + i + 1, by go_num, HK.out, by have h6 := HR.out; rw [if_neg hq, if_neg HBN.out] at h6; exact h6.symm⟩
          case measure => have := HK.out; simp [intOf]; omega
end Go.Proofs.YtpklbelhdfkjpaaDoor
