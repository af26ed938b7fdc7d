/- text.Lower, text.Same; the document's Lower: the walks. pairs.hex, pairs.plain: the walks. -/
import Derived.Test.YtenflcaalckdfaaGreatDoorVv3
import Derived.Test.YtenflcaalckdfaaGreatDoorVv6
import Derived.Laws.IdiomStrings
import Derived.Lib.AppendIntMem
import Derived.Test.YtenflcaalckdfaaGreatDoorVv4
import Derived.Test.YtenflcaalckdfaaGreatDoorVv5
namespace Go.Proofs.YtenflcaalckdfaaGreatDoor
open Go.RowKit Go.Sort Go.Shelf
set_option linter.unusedVariables false

theorem bytes_laid (w : World) (l : List UInt8) (c t : Nat) (hc : l.length ≤ c) : ∀ j (h : j < l.length),
    ((w.alloc (.cells (bytesRow (S l) c) t ((bytesRow (S l) c).size, (bytesRow (S l) c).size + 1))).drew).cell? ⟨w.heap.size, j, none⟩ = some (.int .u8 ((l[j].toNat : Nat) : Int)) ∧
    ((w.alloc (.cells (bytesRow (S l) c) t ((bytesRow (S l) c).size, (bytesRow (S l) c).size + 1))).drew).frozen? ⟨w.heap.size, j, none⟩ = false := fun j h => by
  have hs : (S l).data.size = l.length := by simp [S]
  have h1 := bytesRow_at (S l) c j (by rw [hs]; exact h)
  have h2 : j < (bytesRow (S l) c).size := by
    rcases Nat.lt_or_ge j (bytesRow (S l) c).size with h' | h'
    · exact h'
    · rw [Array.getElem?_eq_none h'] at h1; cases h1
  constructor
  · show (w.alloc _).cell? _ = _
    rw [World.cell?_alloc_mark, h1]
    simp [S]
  · show (w.alloc _).frozen? _ = _
    rw [World.frozen?_alloc_mark]
    simp; omega

set_option maxHeartbeats 800000 in
theorem textLower (l : List UInt8) (hl : l.length ≤ 9223372036854775807) (w : World) : Calls Tryz.prog 69 #[.string (S l)] w fun e w' => e = .returned (.string (S (lower l))) ∧ Below w.heap.size w w' := by
  have hcv := fun w => run_bytes_of_string (P := Tryz.prog) w 9 51 5 (S l) Tryz.underlying9 Tryz.underlying51 Tryz.underlying5
  have hge := grownCap_ge w l.length 0 5
  have HL := Lib.hid (bytes_laid w l (grownCap w l.length 0 5) 5 hge)
  go_enter Tryz.func69, Tryz.ntmps69
  go_wp2
  obtain ⟨cap, hcap⟩ : ∃ c, grownCap w l.length 0 5 = c := ⟨_, rfl⟩
  rw [hcap] at hge
  rw [hcap] at HL ⊢
  clear hcv hcap
  simp only [mk_S]
  go_loopw [10] (fun iv wr => ∃ k : Nat, iv = .int .i64 k ∧ k ≤ l.length ∧ (∀ j (h : j < l.length), wr.cell? ⟨w.heap.size, j, none⟩ = some (.int .u8 (((if j < k then lowB l[j] else l[j]).toNat : Nat) : Int)) ∧ wr.frozen? ⟨w.heap.size, j, none⟩ = false) ∧
      w.heap.size < wr.heap.size ∧ Below w.heap.size w wr) (fun iv _ => l.length - (intOf iv).toNat)
  case atStart => exact ⟨0, rfl, Nat.zero_le _, by simpa using HL.out, by simp, by (repeat (first | with_reducible exact Below.refl _ _ | with_reducible assumption | with_reducible refine Below.drew ?_ | (with_reducible refine Below.setCell ?_ ?_ _; rotate_left; (first | omega | (simp <;> omega))) | (with_reducible refine Below.alloc ?_ ?_ _; rotate_left; (first | omega | (simp <;> omega))) | exact Below.refl _ _ | assumption))⟩
  case round =>
    obtain ⟨k, rfl, hk, hc, hlt, hB⟩ := hrel
    have HC := Lib.hid hc
    clear hc
    by_cases hkl : k < l.length
    · obtain ⟨h1, h2⟩ := HC.out k hkl
      rw [if_neg (Nat.lt_irrefl k)] at h1
      obtain ⟨c, hc⟩ : ∃ c, l[k] = c := ⟨_, rfl⟩
      rw [hc] at h1
      have hnext : ∀ wr' : World, (∀ j, j ≠ k → wr'.cell? ⟨w.heap.size, j, none⟩ = wr.cell? ⟨w.heap.size, j, none⟩) → (∀ j, wr'.frozen? ⟨w.heap.size, j, none⟩ = wr.frozen? ⟨w.heap.size, j, none⟩) → wr'.cell? ⟨w.heap.size, k, none⟩ = some (.int .u8 ((lowB c).toNat : Int)) →
          (∀ j (h : j < l.length), wr'.cell? ⟨w.heap.size, j, none⟩ = some (.int .u8 (((if j < k + 1 then lowB l[j] else l[j]).toNat : Nat) : Int)) ∧ wr'.frozen? ⟨w.heap.size, j, none⟩ = false) := fun wr' a b d j h => by
        obtain ⟨e1, e2⟩ := HC.out j h
        rw [b, e2]
        refine ⟨?_, rfl⟩
        by_cases hj : j = k
        · subst hj; rw [d, if_pos (by omega), hc]
        · rw [a j hj, e1]
          by_cases hj2 : j < k
          · rw [if_pos hj2, if_pos (by omega)]
          · rw [if_neg hj2, if_neg (by omega)]
      have HN := Lib.hid hnext
      clear hnext
      have hc256 := c.toNat_lt
      by_cases hg : 65 ≤ c.toNat ∧ c.toNat ≤ 90
      · obtain ⟨hg1, hg2⟩ := hg
        have hlb := lowB_great ⟨hg1, hg2⟩
        have hst : (wr.setCell ⟨w.heap.size, k, none⟩ (.int .u8 ((c.toNat : Int) + 32))).cell? ⟨w.heap.size, k, none⟩ = some (.int .u8 ((lowB c).toNat : Int)) := by rw [hlb]; exact World.cell?_setCell_same _ _ _ h1
        have HST := Lib.hid hst
        clear hst hlb
        go_wp2
        go_roundw
        case rel => exact ⟨k + 1, by go_num, by omega, HN.out _ (fun j hj => World.cell?_setCell_other _ _ _ _ (by simp <;> omega)) (fun j => by simp) (by simp only [show (c.toNat : Int) + 97 - 65 = (c.toNat : Int) + 32 by omega]; exact HST.out), by simpa using hlt, by (repeat (first | with_reducible exact Below.refl _ _ | with_reducible assumption | with_reducible refine Below.drew ?_ | (with_reducible refine Below.setCell ?_ ?_ _; rotate_left; (first | omega | (simp <;> omega))) | (with_reducible refine Below.alloc ?_ ?_ _; rotate_left; (first | omega | (simp <;> omega))) | exact Below.refl _ _ | assumption))⟩
        case measure => simp [intOf]; omega
      · have hlb := lowB_other hg
        rw [← hlb] at h1
        rcases (by omega : c.toNat < 65 ∨ 90 < c.toNat) with hg1 | hg1
        all_goals
          have hst : wr.cell? ⟨w.heap.size, k, none⟩ = some (.int .u8 ((lowB c).toNat : Int)) := h1
          rw [hlb] at h1
          have HST := Lib.hid hst
          clear hst hlb
          go_wp2
          go_roundw
          case rel => exact ⟨k + 1, by go_num, by omega, HN.out _ (fun j hj => rfl) (fun j => rfl) HST.out, hlt, by (repeat (first | with_reducible exact Below.refl _ _ | with_reducible assumption | with_reducible refine Below.drew ?_ | (with_reducible refine Below.setCell ?_ ?_ _; rotate_left; (first | omega | (simp <;> omega))) | (with_reducible refine Below.alloc ?_ ?_ _; rotate_left; (first | omega | (simp <;> omega))) | exact Below.refl _ _ | assumption))⟩
          case measure => simp [intOf]; omega
    · obtain rfl : k = l.length := by omega
      have hcv := run_convert_bytes_back (P := Tryz.prog) wr 51 9 5 ⟨w.heap.size, 0, none⟩ cap (lower l) Tryz.underlying51 Tryz.underlying5 Tryz.underlying9 (fun j hj => by
        rw [lower_len] at hj
        rw [Lib.add_plain, Nat.zero_add, (HC.out j hj).1, if_pos hj]
        simp [lower])
      rw [lower_len] at hcv
      go_wp2
      go_ret
      exact ⟨rfl, by (repeat (first | with_reducible exact Below.refl _ _ | with_reducible assumption | with_reducible refine Below.drew ?_ | (with_reducible refine Below.setCell ?_ ?_ _; rotate_left; (first | omega | (simp <;> omega))) | (with_reducible refine Below.alloc ?_ ?_ _; rotate_left; (first | omega | (simp <;> omega))) | exact Below.refl _ _ | assumption))⟩

theorem conv_one (W : World) (bb : Nat) (c : UInt8) (h : W.cell? ⟨bb, 0, none⟩ = some (.int .u8 (c.toNat : Int))) : (convert 51 9 (.slice (some ⟨bb, 0, none⟩) 1 1)).run Tryz.prog W = .ok (.string (S [c])) W :=
  run_convert_bytes_back (P := Tryz.prog) W 51 9 5 ⟨bb, 0, none⟩ 1 [c] Tryz.underlying51 Tryz.underlying5 Tryz.underlying9 (fun j hj => by
    have : j = 0 := by simp at hj; omega
    subst this
    rw [Lib.add_plain]; simp [h])

set_option maxHeartbeats 800000 in
theorem refLower (l : List UInt8) (hl : l.length ≤ 4611686018427387903) (w : World) : Calls Tryz.prog 37 #[.string (S l)] w fun e w' => e = .returned (.string (S (lower l))) ∧ Below w.heap.size w w' := by
  go_enter Tryz.func37, Tryz.ntmps37
  go_wp2
  simp only [mk_S]
  go_loopw [3, 4] (fun ov iv wr => ∃ k : Nat, k ≤ l.length ∧ ov = .string (S (lower (l.take k))) ∧ iv = .int .i64 k ∧ Below w.heap.size w wr) (fun _ iv _ => l.length - (intOf iv).toNat)
  case atStart => exact ⟨0, Nat.zero_le _, rfl, rfl, by (repeat (first | with_reducible exact Below.refl _ _ | with_reducible assumption | with_reducible refine Below.drew ?_ | (with_reducible refine Below.setCell ?_ ?_ _; rotate_left; (first | omega | (simp <;> omega))) | (with_reducible refine Below.alloc ?_ ?_ _; rotate_left; (first | omega | (simp <;> omega))) | exact Below.refl _ _ | assumption))⟩
  case round =>
    obtain ⟨k, hk, rfl, rfl, hB⟩ := hrel
    have hzr := hB.size
    by_cases hlt : k < l.length
    · have hbk : bAt l k = (l[k].toNat : Int) := bAt_eq hlt
      obtain ⟨c, hc⟩ : ∃ c, l[k] = c := ⟨_, rfl⟩
      rw [hc] at hbk
      have hlen : (lower (l.take k)).length + 1 ≤ 9223372036854775807 := by rw [lower_len]; simp; omega
      have htk : lower (l.take (k + 1)) = lower (l.take k) ++ [lowB c] := by
        unfold lower
        rw [List.take_succ_eq_append_getElem hlt, List.map_append, hc]; rfl
      obtain ⟨g, hg⟩ : ∃ g, lower (l.take k) = g := ⟨_, rfl⟩
      rw [hg] at hlen htk ⊢
      have HTK := Lib.hid htk
      clear htk hg hc
      have hc256 := c.toNat_lt
      have hcc := fun W bb => conv_one W bb (lowB c)
      by_cases hlow : 65 ≤ c.toNat ∧ c.toNat ≤ 90
      · have hui := lowB_great hlow
        obtain ⟨h1, h2⟩ := hlow
        rw [hui] at hcc
        go_wp2
        go_roundw
        case rel => exact ⟨k + 1, by omega, by rw [HTK.out], by go_num, by (repeat (first | with_reducible exact Below.refl _ _ | with_reducible assumption | with_reducible refine Below.drew ?_ | (with_reducible refine Below.setCell ?_ ?_ _; rotate_left; (first | omega | (simp <;> omega))) | (with_reducible refine Below.alloc ?_ ?_ _; rotate_left; (first | omega | (simp <;> omega))) | exact Below.refl _ _ | assumption))⟩
        case measure => simp [intOf]; omega
      · have hui := lowB_other hlow
        rw [hui] at hcc
        rw [hui] at HTK
        rcases (by omega : c.toNat < 65 ∨ 90 < c.toNat) with hg1 | hg1
        all_goals
          go_wp2
          go_roundw
          case rel => exact ⟨k + 1, by omega, by rw [HTK.out], by go_num, by (repeat (first | with_reducible exact Below.refl _ _ | with_reducible assumption | with_reducible refine Below.drew ?_ | (with_reducible refine Below.setCell ?_ ?_ _; rotate_left; (first | omega | (simp <;> omega))) | (with_reducible refine Below.alloc ?_ ?_ _; rotate_left; (first | omega | (simp <;> omega))) | exact Below.refl _ _ | assumption))⟩
          case measure => simp [intOf]; omega
    · obtain rfl : k = l.length := by omega
      rw [List.take_length]
      go_wp2
      go_ret
      exact ⟨rfl, by (repeat (first | with_reducible exact Below.refl _ _ | with_reducible assumption | with_reducible refine Below.drew ?_ | (with_reducible refine Below.setCell ?_ ?_ _; rotate_left; (first | omega | (simp <;> omega))) | (with_reducible refine Below.alloc ?_ ?_ _; rotate_left; (first | omega | (simp <;> omega))) | exact Below.refl _ _ | assumption))⟩

set_option maxHeartbeats 400000 in
theorem textSame (l m : List UInt8) (hl : l.length ≤ 9223372036854775807) (hm : m.length ≤ 9223372036854775807) (w : World) : Calls Tryz.prog 113 #[.string (S l), .string (S m)] w fun e w' => e = .returned (.bool (lower l == lower m)) ∧ Below w.heap.size w w' := by
  have C1 := Lib.hid (fun W => textLower l hl W)
  have C2 := Lib.hid (fun W => textLower m hm W)
  go_enter Tryz.func113, Tryz.ntmps113
  go_wp2_with fail
  refine (C1.out _).mono ?_
  rintro e w1 ⟨rfl, hb1⟩
  go_wp2_with fail
  refine (C2.out _).mono ?_
  rintro e w2 ⟨rfl, hb2⟩
  have hb := hb1.trans (hb2.mono hb1.size)
  go_wp2
  go_ret
  exact ⟨by rfl, hb⟩
end Go.Proofs.YtenflcaalckdfaaGreatDoor
namespace Go.Proofs.YtenflcaalckdfaaGreatDoor
open Go.RowKit Go.Sort Go.Shelf
set_option linter.unusedVariables false

set_option maxHeartbeats 800000 in
theorem pairsHex (c : UInt8) (w : World) : Calls Tryz.prog 130 #[.int .u8 (c.toNat : Int)] w fun e w' => e = .returned (.int .i64 (hexV c)) ∧ Below w.heap.size w w' := by
  have TL := Lib.hid (fun W => textLower [c] (by simp) W)
  rw [show lower [c] = [lowB c] from rfl] at TL
  have hb0 : bAt [lowB c] 0 = ((lowB c).toNat : Int) := rfl
  have IB := Lib.hid (fun W => indexByte_S (s := hexd) (c := ((lowB c).toNat : Int)) (i := hexV c) (by unfold hexV; congr 1; simp) W)
  have hc0 : (0 : Int) ≤ (c.toNat : Int) ∧ (c.toNat : Int) < 256 := by have := c.toNat_lt; omega
  have CV := fun W bb => conv_one W bb c
  unfold hexd at IB
  obtain ⟨d, hd⟩ : ∃ d, lowB c = d := ⟨_, rfl⟩
  rw [hd] at TL hb0 IB
  clear hd
  go_enter Tryz.func130, Tryz.ntmps130
  go_wp2_with (first
    | (go_at_call 69; refine Calls.mono (TL.out _) ?_; rintro e w1 ⟨rfl, hb1⟩; have hB1 := Below.trans (show Below w.heap.size w _ by (repeat (first | with_reducible exact Below.refl _ _ | with_reducible assumption | with_reducible refine Below.drew ?_ | (with_reducible refine Below.setCell ?_ ?_ _; rotate_left; (first | omega | (simp <;> omega))) | (with_reducible refine Below.alloc ?_ ?_ _; rotate_left; (first | omega | (simp <;> omega))) | exact Below.refl _ _ | assumption))) (hb1.mono (by (first | omega | (simp <;> omega)))))
    | (go_at_call 52; refine Calls.mono (IB.out _) ?_; rintro e w' ⟨rfl, hw'⟩; obtain rfl := hw'.symm))
  go_ret
  exact ⟨rfl, hB1⟩

theorem codeB_nat {a b : UInt8} (ha : 0 ≤ hexV a) (hb : 0 ≤ hexV b) : ((codeB a b).toNat : Int) = hexV a * 16 + hexV b ∧ hexV a * 16 + hexV b ≤ 255 := by
  rcases hexV_range a with h | ⟨_, h1⟩
  · omega
  rcases hexV_range b with h | ⟨_, h2⟩
  · omega
  obtain ⟨x, hx⟩ : ∃ x : Nat, hexV a = x := ⟨(hexV a).toNat, by omega⟩
  obtain ⟨y, hy⟩ : ∃ y : Nat, hexV b = y := ⟨(hexV b).toNat, by omega⟩
  have hx1 : x ≤ 15 := by omega
  have hy1 : y ≤ 15 := by omega
  unfold codeB
  rw [hx, hy]
  simp only [Int.toNat_natCast, UInt8.toNat_ofNat']
  omega
theorem plain_plus {s : List UInt8} {i : Nat} (h : i < s.length) (hc : s[i] = 43) : plainG 0 (s.drop i) = 32 :: plainG 0 (s.drop (i + 1)) := by
  rw [List.drop_eq_getElem_cons h, hc]; rfl
theorem plain_code {s : List UInt8} {i : Nat} (h : i + 2 < s.length) (hc : s[i] = 37) (h1 : 0 ≤ hexV s[i + 1]) (h2 : 0 ≤ hexV s[i + 2]) : plainG 0 (s.drop i) = codeB s[i + 1] s[i + 2] :: plainG 0 (s.drop (i + 3)) := by
  rw [List.drop_eq_getElem_cons (by omega : i < s.length), hc, List.drop_eq_getElem_cons (by omega : i + 1 < s.length), List.drop_eq_getElem_cons (by omega : i + 1 + 1 < s.length)]
  conv => lhs; unfold plainG
  rw [if_neg (by decide), if_pos ⟨rfl, by show (decide (0 ≤ hexV _) && decide (0 ≤ hexV _)) = true; rw [decide_eq_true h1, decide_eq_true h2]; rfl⟩]
  rfl
theorem plain_other {s : List UInt8} {i : Nat} (h : i < s.length) (hc : s[i] ≠ 43) (hn : ¬ (s[i] = 37 ∧ ∃ (h2 : i + 2 < s.length), 0 ≤ hexV s[i + 1] ∧ 0 ≤ hexV s[i + 2])) : plainG 0 (s.drop i) = s[i] :: plainG 0 (s.drop (i + 1)) := by
  rw [List.drop_eq_getElem_cons h]
  conv => lhs; unfold plainG
  rw [if_neg hc, if_neg]
  rintro ⟨h1, h2⟩
  apply hn
  refine ⟨h1, ?_⟩
  by_cases h3 : i + 2 < s.length
  · rw [List.drop_eq_getElem_cons (by omega : i + 1 < s.length), List.drop_eq_getElem_cons (by omega : i + 1 + 1 < s.length)] at h2
    have h4 : (decide (0 ≤ hexV s[i + 1]) && decide (0 ≤ hexV s[i + 1 + 1])) = true := h2
    simp only [Bool.and_eq_true, decide_eq_true_eq] at h4
    exact ⟨h3, h4⟩
  · exfalso
    by_cases h4 : i + 1 < s.length
    · rw [List.drop_eq_getElem_cons h4, List.drop_of_length_le (by omega : s.length ≤ i + 1 + 1)] at h2
      cases h2
    · rw [List.drop_of_length_le (by omega)] at h2
      cases h2

set_option maxHeartbeats 3200000 in
set_option maxRecDepth 100000 in
theorem pairsPlain (s : List UInt8) (hs : s.length ≤ 1000000) (w : World) : Calls Tryz.prog 103 #[.string (S s)] w fun e w' => e = .returned (.string (S (plainL s))) ∧ Below w.heap.size w w' := by
  unfold plainL
  obtain ⟨R, hR⟩ : ∃ R, plainG 0 s = R := ⟨_, rfl⟩
  rw [hR]
  have HX := Lib.hid (fun c W => pairsHex c W)
  have hs1 : (s.length : Int) ≤ 1000000 := by omega
  have HR := Lib.hid hR
  clear hR
  go_enter Tryz.func103, Tryz.ntmps103
  go_wp2
  simp only [mk_S]
  go_loopw [3, 4] (fun ov iv wr => ∃ (i : Nat) (out : List UInt8), iv = .int .i64 i ∧ i ≤ s.length ∧ OwnsB wr w.heap.size ov out ∧ out ++ plainG 0 (s.drop i) = R ∧ out.length ≤ i ∧ Below w.heap.size w wr) (fun _ iv _ => s.length - (intOf iv).toNat)
  case atStart => exact ⟨0, [], rfl, Nat.zero_le _, OwnsB.nil _ _, HR.out, Nat.le_refl _, Below.refl _ _⟩
  case round =>
    obtain ⟨i, out, rfl, hi, hown, hout, hol, hB⟩ := hrel
    have HO := Lib.hid hown
    have HBB := Lib.hid hB
    have hz := hB.size
    clear hB
    by_cases hlt : i < s.length
    · have hbi : bAt s i = (s[i].toNat : Int) := bAt_eq hlt
      by_cases hp : s[i] = 43
      · have HOUT := Lib.hid (show (out ++ [32]) ++ plainG 0 (s.drop (i + 1)) = R by rw [← hout, plain_plus hlt hp]; simp)
        have hb : bAt s i = 43 := by rw [hbi, hp]; rfl
        clear hout hbi hp hown
        go_wp2_with (at_builtin; refine wp_append_byte rfl _ _ rfl _ w.heap.size _ out 32 _ rfl (HO.out.below (by (repeat (first | with_reducible exact Below.refl _ _ | with_reducible assumption | with_reducible refine Below.drew ?_ | (with_reducible refine Below.setCell ?_ ?_ _; rotate_left; (first | omega | (simp <;> omega))) | (with_reducible refine Below.alloc ?_ ?_ _; rotate_left; (first | omega | (simp <;> omega))) | exact Below.refl _ _ | assumption)))) rfl _ rfl rfl (by omega) (by omega) ?_; intro v4 w4 hown4 hb4; have HO4 := Lib.hid hown4; have HB4 := Lib.hid hb4; clear hown4 hb4)
        go_roundw
        case rel => exact ⟨i + 1, out ++ [32], by go_num, by omega, HO4.out, HOUT.out, by simp; omega, HBB.out.trans HB4.out⟩
        case measure => simp [intOf]; omega
      · obtain ⟨c, hc⟩ : ∃ c, s[i] = c := ⟨_, rfl⟩
        have hn43 : ((c.toNat : Int) == 43) = false := by
          simp only [beq_eq_false_iff_ne, ne_eq]
          intro e
          exact hp (by rw [hc]; exact UInt8.toNat.inj (Int.ofNat.inj e))
        have HOTH := Lib.hid (fun hn => show (out ++ [c]) ++ plainG 0 (s.drop (i + 1)) = R from by rw [← hout, plain_other hlt hp hn, hc]; simp)
        have HCODE := Lib.hid (fun (h2 : i + 2 < s.length) (h37 : s[i] = 37) (ha : 0 ≤ hexV s[i + 1]) (hb : 0 ≤ hexV s[i + 2]) => show (out ++ [codeB s[i + 1] s[i + 2]]) ++ plainG 0 (s.drop (i + 3)) = R from by rw [← hout, plain_code h2 h37 ha hb]; simp)
        rw [hc] at hbi
        clear hout hown
        by_cases h37 : c = 37
        · subst h37
          have hbj : bAt s i = 37 := hbi
          clear hbi hn43
          by_cases h2 : i + 2 < s.length
          · have h2i : (i : Int) + 2 < (s.length : Int) := by omega
            have hba : bAt s (i + 1) = (s[i + 1].toNat : Int) := bAt_eq (by omega)
            have hbb : bAt s (i + 2) = (s[i + 2].toNat : Int) := bAt_eq h2
            have hra := hexV_range s[i + 1]
            have hrb := hexV_range s[i + 2]
            have HA := Lib.hid (fun W => HX.out s[i + 1] W)
            have HB := Lib.hid (fun W => HX.out s[i + 2] W)
            have HCO := Lib.hid (fun h => HCODE.out h2 hc h)
            have HNO := Lib.hid (fun (h : ¬ (0 ≤ hexV s[i + 1] ∧ 0 ≤ hexV s[i + 2])) => HOTH.out (fun ⟨_, _, e⟩ => h e))
            have HCN := Lib.hid (fun (k1 : 0 ≤ hexV s[i + 1]) (k2 : 0 ≤ hexV s[i + 2]) => codeB_nat (a := s[i + 1]) (b := s[i + 2]) k1 k2)
            obtain ⟨a, ha⟩ : ∃ a, s[i + 1] = a := ⟨_, rfl⟩
            obtain ⟨b, hb⟩ : ∃ b, s[i + 2] = b := ⟨_, rfl⟩
            rw [ha] at hba hra HA HCO HNO HCN
            rw [hb] at hbb hrb HB HCO HNO HCN
            clear ha hb hc
            obtain ⟨va, hha⟩ : ∃ y, hexV a = y := ⟨_, rfl⟩
            obtain ⟨vb, hhb⟩ : ∃ y, hexV b = y := ⟨_, rfl⟩
            rw [hha] at hra HA HCO HNO HCN
            rw [hhb] at hrb HB HCO HNO HCN
            clear hha hhb HCODE HOTH
            rcases hra with rfl | ⟨hra0, hra1⟩
            · have HOUT := Lib.hid (HNO.out (by omega))
              clear HCO HNO HCN
              go_wp2_with (first
                | (go_at_call 130; refine Calls.mono (HA.out _) ?_; rintro e w1 ⟨rfl, hb1⟩; have hz1 := hb1.size)
                | (at_builtin; refine wp_append_byte rfl _ _ rfl _ w.heap.size _ out 37 _ rfl (HO.out.below (by (repeat (first | with_reducible exact Below.refl _ _ | with_reducible assumption | with_reducible refine Below.drew ?_ | (with_reducible refine Below.setCell ?_ ?_ _; rotate_left; (first | omega | (simp <;> omega))) | (with_reducible refine Below.alloc ?_ ?_ _; rotate_left; (first | omega | (simp <;> omega))) | exact Below.refl _ _ | assumption)))) rfl _ rfl rfl (by omega) (by omega) ?_; intro v4 w4 hown4 hb4; have HO4 := Lib.hid hown4; have HB4 := Lib.hid hb4; clear hown4 hb4))
              go_roundw
              case rel => exact ⟨i + 1, out ++ [37], by go_num, by omega, HO4.out, HOUT.out, by simp; omega, HBB.out.trans ((hb1.mono hz).trans HB4.out)⟩
              case measure => simp [intOf]; omega
            · rcases hrb with rfl | ⟨hrb0, hrb1⟩
              · have HOUT := Lib.hid (HNO.out (by omega))
                clear HCO HNO HCN
                go_wp2_with (first
                  | (go_at_call 130; with_reducible refine Calls.mono (HA.out _) ?_; rintro e w1 ⟨rfl, hb1⟩; have hz1 := hb1.size)
                  | (go_at_call 130; with_reducible refine Calls.mono (HB.out _) ?_; rintro e w2 ⟨rfl, hb2⟩; have hz2 := hb2.size; have hb12 := hb1.trans (hb2.mono hz1))
                  | (at_builtin; refine wp_append_byte rfl _ _ rfl _ w.heap.size _ out 37 _ rfl (HO.out.below (by (repeat (first | with_reducible exact Below.refl _ _ | with_reducible assumption | with_reducible refine Below.drew ?_ | (with_reducible refine Below.setCell ?_ ?_ _; rotate_left; (first | omega | (simp <;> omega))) | (with_reducible refine Below.alloc ?_ ?_ _; rotate_left; (first | omega | (simp <;> omega))) | exact Below.refl _ _ | assumption)))) rfl _ rfl rfl (by omega) (by omega) ?_; intro v4 w4 hown4 hb4; have HO4 := Lib.hid hown4; have HB4 := Lib.hid hb4; clear hown4 hb4))
                go_roundw
                case rel => exact ⟨i + 1, out ++ [37], by go_num, by omega, HO4.out, HOUT.out, by simp; omega, HBB.out.trans ((hb12.mono hz).trans HB4.out)⟩
                case measure => simp [intOf]; omega
              · have HOUT := Lib.hid (HCO.out hra0 hrb0)
                obtain ⟨hcz, hcm⟩ := HCN.out hra0 hrb0
                have HCZ := Lib.hid hcz
                have hm0 : 0 ≤ va * 16 + vb := by omega
                have hw1 : IntKind.i64.wrap (va * 16) = va * 16 := by (first | rw [IntKind.wrap_i64] | simp only [IntKind.wrap, IntKind.bits, IntKind.signed]) <;> (try simp) <;> omega
                have hw2 : IntKind.i64.wrap (va * 16 + vb) = va * 16 + vb := by (first | rw [IntKind.wrap_i64] | simp only [IntKind.wrap, IntKind.bits, IntKind.signed]) <;> (try simp) <;> omega
                have hw3 : IntKind.i64.wrap ((i : Int) + 1) = (i : Int) + 1 := by (first | rw [IntKind.wrap_i64] | simp only [IntKind.wrap, IntKind.bits, IntKind.signed]) <;> (try simp) <;> omega
                have hw4 : IntKind.i64.wrap ((i : Int) + 2) = (i : Int) + 2 := by (first | rw [IntKind.wrap_i64] | simp only [IntKind.wrap, IntKind.bits, IntKind.signed]) <;> (try simp) <;> omega
                have hw5 : IntKind.u8.wrap (va * 16 + vb) = va * 16 + vb := by (first | rw [IntKind.wrap_u8] | simp only [IntKind.wrap, IntKind.bits, IntKind.signed]) <;> (try simp) <;> omega
                have hi1 : i + 1 < s.length := by omega
                have hi1i : (i : Int) + 1 < (s.length : Int) := by omega
                clear HCO HNO HCN hcz
                go_wp2_with (first
                  | (go_at_call 130; with_reducible refine Calls.mono (HA.out _) ?_; rintro e w1 ⟨rfl, hb1⟩; have hz1 := hb1.size)
                  | (go_at_call 130; with_reducible refine Calls.mono (HB.out _) ?_; rintro e w2 ⟨rfl, hb2⟩; have hz2 := hb2.size; have hb12 := hb1.trans (hb2.mono hz1))
                  | fail)
                go_wp2_with fail
                refine wp_region_later (w2.heap.size) (by kernel_rfl) (by kernel_rfl) ?_
                repeat (go_big_quiet_step (first | (go_at_call 130; refine later_of (by (first | omega | (simp <;> omega))) (HA.out _)) | (go_at_call 130; refine later_of (by (first | omega | (simp <;> omega))) (HB.out _))))
                refine wpQuiet_nil ?_
                rintro w3 ⟨⟨_, hb_w3⟩, rfl⟩
                try simp only [] at hb_w3 ⊢
                have hz_w3 := hb_w3.size
                try simp at hz_w3
                have HH_w3 := Lib.hid hb_w3
                have hB_w3 : Below w2.heap.size w2 w3 := Below.trans (by (repeat (first | with_reducible exact Below.refl _ _ | with_reducible assumption | with_reducible refine Below.drew ?_ | (with_reducible refine Below.setCell ?_ ?_ _; rotate_left; (first | omega | (simp <;> omega))) | (with_reducible refine Below.alloc ?_ ?_ _; rotate_left; (first | omega | (simp <;> omega))) | exact Below.refl _ _ | assumption))) (hb_w3.mono (by first | omega | (simp <;> omega)))
                clear hb_w3
                have hz3 := hB_w3.size
                have hb123 := hb12.trans (hB_w3.mono (by omega))
                go_wp2_with (at_builtin; refine wp_append_byte rfl _ _ rfl _ w.heap.size _ out (codeB a b) _ HCZ.out (HO.out.below (by (repeat (first | with_reducible exact Below.refl _ _ | with_reducible assumption | with_reducible refine Below.drew ?_ | (with_reducible refine Below.setCell ?_ ?_ _; rotate_left; (first | omega | (simp <;> omega))) | (with_reducible refine Below.alloc ?_ ?_ _; rotate_left; (first | omega | (simp <;> omega))) | exact Below.refl _ _ | assumption)))) rfl _ rfl rfl (by omega) (by omega) ?_; intro v4 w4 hown4 hb4; have HO4 := Lib.hid hown4; have HB4 := Lib.hid hb4; clear hown4 hb4)
                go_roundw
                case rel => exact ⟨i + 3, out ++ [codeB a b], by go_num, by omega, HO4.out, HOUT.out, by simp; omega, HBB.out.trans ((hb123.mono hz).trans HB4.out)⟩
                case measure => simp [intOf]; omega
          · have h2i : (s.length : Int) ≤ (i : Int) + 2 := by omega
            have HOUT := Lib.hid (HOTH.out (fun ⟨_, e, _⟩ => h2 e))
            clear HCODE HOTH hc
            go_wp2_with (at_builtin; refine wp_append_byte rfl _ _ rfl _ w.heap.size _ out 37 _ rfl (HO.out.below (by (repeat (first | with_reducible exact Below.refl _ _ | with_reducible assumption | with_reducible refine Below.drew ?_ | (with_reducible refine Below.setCell ?_ ?_ _; rotate_left; (first | omega | (simp <;> omega))) | (with_reducible refine Below.alloc ?_ ?_ _; rotate_left; (first | omega | (simp <;> omega))) | exact Below.refl _ _ | assumption)))) rfl _ rfl rfl (by omega) (by omega) ?_; intro v4 w4 hown4 hb4; have HO4 := Lib.hid hown4; have HB4 := Lib.hid hb4; clear hown4 hb4)
            go_roundw
            case rel => exact ⟨i + 1, out ++ [37], by go_num, by omega, HO4.out, HOUT.out, by simp; omega, HBB.out.trans HB4.out⟩
            case measure => simp [intOf]; omega
        · have h37b : ((c.toNat : Int) == 37) = false := by
            simp only [beq_eq_false_iff_ne, ne_eq]
            intro e
            exact h37 (UInt8.toNat.inj (Int.ofNat.inj e))
          have HOUT := Lib.hid (HOTH.out (fun ⟨e, _⟩ => h37 (hc.symm.trans e)))
          clear HCODE HOTH hc h37
          go_wp2_with (at_builtin; refine wp_append_byte rfl _ _ rfl _ w.heap.size _ out c _ rfl (HO.out.below (by (repeat (first | with_reducible exact Below.refl _ _ | with_reducible assumption | with_reducible refine Below.drew ?_ | (with_reducible refine Below.setCell ?_ ?_ _; rotate_left; (first | omega | (simp <;> omega))) | (with_reducible refine Below.alloc ?_ ?_ _; rotate_left; (first | omega | (simp <;> omega))) | exact Below.refl _ _ | assumption)))) rfl _ rfl rfl (by omega) (by omega) ?_; intro v4 w4 hown4 hb4; have HO4 := Lib.hid hown4; have HB4 := Lib.hid hb4; clear hown4 hb4)
          go_roundw
          case rel => exact ⟨i + 1, out ++ [c], by go_num, by omega, HO4.out, HOUT.out, by simp; omega, HBB.out.trans HB4.out⟩
          case measure => simp [intOf]; omega
    · obtain rfl : i = s.length := by omega
      have hR2 : out = R := by rw [← hout, List.drop_length]; simp [plainG]
      subst hR2
      have hcv := HO.out.text
      clear hout hown
      go_wp2
      go_ret
      exact ⟨rfl, HBB.out⟩
end Go.Proofs.YtenflcaalckdfaaGreatDoor
