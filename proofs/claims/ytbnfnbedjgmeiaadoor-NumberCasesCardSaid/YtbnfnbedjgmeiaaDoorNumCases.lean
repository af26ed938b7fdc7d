/- The law NumberCases: its walk. -/
import Derived.Test.YtbnfnbedjgmeiaaDoorNumBack
namespace Go.Proofs.YtbnfnbedjgmeiaaDoor
open Go.RowKit Go.Sort Go.Shelf
set_option linter.unusedVariables false

theorem declen_mono : ∀ (m n : Nat), n ≤ m → (Lib.decDigits n).length ≤ (Lib.decDigits m).length := by
  intro m
  induction m using Nat.strongRecOn with
  | ind m ih =>
    intro n h
    by_cases h1 : n < 10
    · rw [decDigits_lt h1]
      have := (good_dec m).2.2
      have := List.length_pos_iff.2 this
      simp; omega
    · rw [decDigits_ten h1, decDigits_ten (by omega : ¬ m < 10)]
      have := ih (m / 10) (by omega) (n / 10) (by omega)
      simp; omega
theorem hexlen_mono : ∀ (m n : Nat), m < 18446744073709551616 → n ≤ m → (hexL n).length ≤ (hexL m).length := by
  intro m
  induction m using Nat.strongRecOn with
  | ind m ih =>
    intro n hm h
    by_cases h1 : n < 16
    · rw [hexL_one h1]
      have := (good_hex m hm).2.2
      have := List.length_pos_iff.2 this
      simp; omega
    · rw [hexL_step (by omega) (by omega), hexL_step (by omega : 16 ≤ m) hm]
      have := ih (m / 16) (by omega) (n / 16) (by omega) (by omega)
      simp; omega
theorem hexlen_dec : ∀ (n : Nat), n < 18446744073709551616 → (hexL n).length ≤ (Lib.decDigits n).length := by
  intro n
  induction n using Nat.strongRecOn with
  | ind n ih =>
    intro hn
    by_cases h1 : n < 16
    · rw [hexL_one h1]
      have := List.length_pos_iff.2 (good_dec n).2.2
      simp; omega
    · rw [hexL_step (by omega) hn, decDigits_ten (by omega)]
      have h2 := ih (n / 16) (by omega) (by omega)
      have h3 := declen_mono (n / 10) (n / 16) (by omega)
      simp; omega

/-- A small hexadecimal letter made great. -/
def upN (n : Nat) : Nat := if 97 ≤ n ∧ n ≤ 102 then n - 32 else n
def upB (c : UInt8) : UInt8 := UInt8.ofNat (upN c.toNat)
theorem upN_lt (n : Nat) (h : n < 256) : upN n < 256 := by unfold upN; split <;> omega
theorem upB_toNat (c : UInt8) : (upB c).toNat = upN c.toNat := by
  unfold upB
  have := upN_lt c.toNat c.toNat_lt
  simp; omega
theorem hexV_up (n : Nat) (h : n < 256) : hexV (upN n) = hexV n := by
  unfold upN hexV
  (repeat' split) <;> omega
theorem read_up (l : List UInt8) : readN hexV 16 (l.map upB) = readN hexV 16 l := by
  have e1 : badN hexV 16 (l.map upB) = badN hexV 16 l := by
    unfold badN
    rw [List.any_map]
    congr 1
    funext c
    simp [upB_toNat, hexV_up c.toNat c.toNat_lt]
  have e2 : valN hexV 16 (l.map upB) = valN hexV 16 l := by
    unfold valN
    rw [List.foldl_map]
    congr 1
    funext n c
    rw [upB_toNat, hexV_up c.toNat c.toNat_lt]
  unfold readN
  rw [e1, e2]
  simp

set_option maxHeartbeats 2000000 in
set_option maxRecDepth 100000 in
theorem numberCases (a b lo hi : Nat) (hmin : min (a : Int) (b : Int) = (lo : Int)) (hmax : max (a : Int) (b : Int) = (hi : Int)) (hle : lo ≤ hi) (hhi : hi < 18446744073709551616) (w : World) (hL : Laid w) :
    Calls Tryd.prog 3 #[.int .u64 a, .int .u64 b] w fun e w' => e = .returned (.bool true) ∧ Below w.heap.size w w' := by
  have hlo : lo < 18446744073709551616 := by omega
  have C7 := Lib.hid (via_alive hL)
  have D1 := Lib.hid (via_dec hL hlo); have D2 := Lib.hid (via_dec hL hhi); have X1 := Lib.hid (via_hex hL hlo); have X2 := Lib.hid (via_hex hL hhi)
  clear hL
  have l1 := declen_mono hi lo hle
  have l2 := hexlen_mono hi lo hhi hle
  have l3 := hexlen_dec lo hlo
  have l4 := hexL_len lo
  obtain ⟨s, hs⟩ : ∃ s, hexL lo = s := ⟨_, rfl⟩
  rw [hs] at l2 l3 l4 X1
  obtain ⟨⟨v, ve⟩, hv⟩ : ∃ x, readN hexV 16 s = x := ⟨_, rfl⟩
  have hv2 := (read_up s).trans hv
  have R1 := Lib.hid (show Via w 8 #[.string (S s)] (.tuple #[.int .u64 v, .int .i64 ve]) from by
    have h := via_same (w := w) fun W => readHex s (by omega) W
    rw [hv] at h
    exact h)
  have R2 := Lib.hid (show Via w 8 #[.string (S (s.map upB))] (.tuple #[.int .u64 v, .int .i64 ve]) from by
    have h := via_same (w := w) fun W => readHex (s.map upB) (by simp; omega) W
    rw [hv2] at h
    exact h)
  have hb := Below.refl w.heap.size w
  have hcv : ∀ (W : World) (bb : Nat) (c : UInt8), W.cell? ⟨bb, 0, none⟩ = some (.int .u8 (c.toNat : Int)) → (convert 24 9 (.slice (some ⟨bb, 0, none⟩) 1 1)).run Tryd.prog W = .ok (.string (S [c])) W := fun W bb c h => by
    have := run_convert_bytes_back (P := Tryd.prog) W 24 9 5 ⟨bb, 0, none⟩ 1 [c] Tryd.underlying24 Tryd.underlying5 Tryd.underlying9 (fun j hj => by
      have : j = 0 := by simp at hj; omega
      subst this
      rw [Lib.add_plain]; simp [h])
    exact this
  clear hs hv hv2
  go_enter Tryd.func3, Tryd.ntmps3
  go_wp2_with (go_at_call 7; refine (X1.out _ (by assumption)).mono ?_; rintro e w' ⟨rfl, hb⟩; have hz := hb.size)
  simp only [mk_S]
  go_loopw [6, 23] (fun gv iv wr => ∃ k : Nat, k ≤ s.length ∧ gv = .string (S ((s.take k).map upB)) ∧ iv = .int .i64 k ∧ Below w.heap.size w wr) (fun _ iv _ => s.length - (intOf iv).toNat)
  case atStart => exact ⟨0, Nat.zero_le _, rfl, rfl, by (repeat (first | exact Below.refl _ _ | assumption | refine Below.drew ?_ | refine Below.alloc ?_ (by first | omega | (simp <;> omega)) _ | refine Below.setCell ?_ (by first | omega | (simp <;> omega)) _))⟩
  case round =>
    obtain ⟨k, hk, rfl, rfl, hB⟩ := hrel
    have hzr := hB.size
    by_cases hlt : k < s.length
    · have hbk : bAt s k = (s[k].toNat : Int) := bAt_eq hlt
      obtain ⟨c, hc⟩ : ∃ c, s[k] = c := ⟨_, rfl⟩
      rw [hc] at hbk
      have hlen : ((s.take k).map upB).length + 1 ≤ 9223372036854775807 := by simp; omega
      have htk : (s.take (k + 1)).map upB = (s.take k).map upB ++ [upB c] := by
        rw [List.take_succ_eq_append_getElem hlt, List.map_append, hc]; rfl
      obtain ⟨g, hg⟩ : ∃ g, (s.take k).map upB = g := ⟨_, rfl⟩
      rw [hg] at hlen htk ⊢
      have HTK := Lib.hid htk
      clear htk hg hc
      have hu := upB_toNat c
      have hc256 := c.toNat_lt
      by_cases hlow : 97 ≤ c.toNat ∧ c.toNat ≤ 102
      · obtain ⟨h1, h2⟩ := hlow
        have hui : ((c.toNat : Int) - 32) = ((upB c).toNat : Int) := by rw [hu]; unfold upN; rw [if_pos ⟨h1, h2⟩]; omega
        have hcc := fun W bb => hcv W bb (upB c)
        clear hu
        go_wp2
        go_roundw
        case rel => exact ⟨k + 1, by omega, by rw [HTK.out], by go_num, by (repeat (first | exact Below.refl _ _ | assumption | refine Below.drew ?_ | refine Below.alloc ?_ (by first | omega | (simp <;> omega)) _ | refine Below.setCell ?_ (by first | omega | (simp <;> omega)) _))⟩
        case measure => simp [intOf]; omega
      · have hui : ((c.toNat : Int)) = ((upB c).toNat : Int) := by rw [hu]; unfold upN; rw [if_neg hlow]
        have hcc := fun W bb => hcv W bb (upB c)
        clear hu
        rw [hui] at hbk
        have hcase : ((upB c).toNat : Int) < 97 ∨ 102 < ((upB c).toNat : Int) := by omega
        obtain ⟨d, hd⟩ : ∃ d, upB c = d := ⟨_, rfl⟩
        rw [hd] at hbk hcase hcc HTK
        clear hui hd
        rcases hcase with h97 | h97
        · go_wp2
          go_roundw
          case rel => exact ⟨k + 1, by omega, by rw [HTK.out], by go_num, by (repeat (first | exact Below.refl _ _ | assumption | refine Below.drew ?_ | refine Below.alloc ?_ (by first | omega | (simp <;> omega)) _ | refine Below.setCell ?_ (by first | omega | (simp <;> omega)) _))⟩
          case measure => simp [intOf]; omega
        · go_wp2
          go_roundw
          case rel => exact ⟨k + 1, by omega, by rw [HTK.out], by go_num, by (repeat (first | exact Below.refl _ _ | assumption | refine Below.drew ?_ | refine Below.alloc ?_ (by first | omega | (simp <;> omega)) _ | refine Below.setCell ?_ (by first | omega | (simp <;> omega)) _))⟩
          case measure => simp [intOf]; omega
    · have hkl : k = s.length := by omega
      subst hkl
      rw [List.take_length]
      have hgl : (s.map upB).length = s.length := by simp
      go_wp2_with (first
        | (go_at_call 8; with_reducible refine (R1.out _ (by assumption)).mono ?_; rintro e w' ⟨rfl, hb⟩)
        | (go_at_call 8; with_reducible refine (R2.out _ (by assumption)).mono ?_; rintro e w' ⟨rfl, hb⟩)
        | (go_at_call 10; with_reducible refine (D1.out _ (by assumption)).mono ?_; rintro e w' ⟨rfl, hb⟩)
        | (go_at_call 10; with_reducible refine (D2.out _ (by assumption)).mono ?_; rintro e w' ⟨rfl, hb⟩)
        | (go_at_call 7; with_reducible refine (X2.out _ (by assumption)).mono ?_; rintro e w' ⟨rfl, hb⟩)
        | (go_at_call 9; refine (C7.out _ (by assumption)).mono ?_; rintro e w' ⟨rfl, hb⟩))
      go_ret
      exact ⟨rfl, by assumption⟩

theorem numberCases_any (n m : Int) (w : World) (h0 : (Lit.int .u64 n).wf = true) (h1 : (Lit.int .u64 m).wf = true) (hL : Laid w) :
    Calls Tryd.prog 3 #[.int .u64 n, .int .u64 m] w fun e w' => e = .returned (.bool true) ∧ Below w.heap.size w w' := by
  obtain ⟨a, rfl, ha⟩ := u64_nat h0
  obtain ⟨b, rfl, hb⟩ := u64_nat h1
  by_cases h : a ≤ b
  · exact numberCases a b a b (by omega) (by omega) h hb w hL
  · exact numberCases a b b a (by omega) (by omega) (by omega) ha w hL
end Go.Proofs.YtbnfnbedjgmeiaaDoor
