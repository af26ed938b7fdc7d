/- The document's answer for texts: blank, Trim. text.Lower, text.Same; the document's Lower: the walks. -/
import Derived.Test.YtcfihoniocamaaaGreatDoorPk4
import Derived.Test.YtcfihoniocamaaaGreatDoorPk2
import Derived.Laws.IdiomStrings
import Derived.Lib.AppendIntMem
namespace Go.Proofs.YtcfihoniocamaaaGreatDoor
open Go.RowKit Go.Sort Go.Shelf
set_option linter.unusedVariables false

theorem refBlank (c : UInt8) (w : World) : Calls Tryz.prog 46 #[.int .u8 (c.toNat : Int)] w fun e w' => e = .returned (.bool (blankB c)) ∧ w' = w := by
  have h32 : ((c.toNat : Int) == 32) = (c == 32) := by
    by_cases h : c = 32
    · subst h; rfl
    · have h' : ¬ c.toNat = 32 := fun e => h (UInt8.toNat.inj e)
      rw [show (c == 32) = false by simpa using h]; simp; omega
  have h9 : ((c.toNat : Int) == 9) = (c == 9) := by
    by_cases h : c = 9
    · subst h; rfl
    · have h' : ¬ c.toNat = 9 := fun e => h (UInt8.toNat.inj e)
      rw [show (c == 9) = false by simpa using h]; simp; omega
  obtain ⟨x, hx⟩ : ∃ x, (c == 32) = x := ⟨_, rfl⟩
  obtain ⟨y, hy⟩ : ∃ y, (c == 9) = y := ⟨_, rfl⟩
  have e : blankB c = (x || y) := by unfold blankB; rw [hx, hy]
  rw [hx] at h32
  rw [hy] at h9
  rw [e]
  clear hx hy e
  cases x <;> cases y <;>
  · go_enter Tryz.func46, Tryz.ntmps46
    go_wp2
    go_ret
    exact ⟨rfl, rfl⟩

set_option maxHeartbeats 800000 in
theorem refTrim (l : List UInt8) (hl : l.length ≤ 9223372036854775807) (w : World) : Calls Tryz.prog 24 #[.string (S l)] w fun e w' => e = .returned (.string (S (trim l))) ∧ w' = w := by
  have HB := Lib.hid (fun c W => refBlank c W)
  go_enter Tryz.func24, Tryz.ntmps24
  go_wp2
  simp only [mk_S]
  go_loop [0] (fun sv => ∃ t : List UInt8, sv = .string (S t) ∧ trimL t = trimL l ∧ t.length ≤ l.length) (fun sv => strLen sv)
  case atStart => exact ⟨l, rfl, rfl, Nat.le_refl _⟩
  case round =>
    obtain ⟨t, rfl, ht, htl⟩ := hrel
    have HT := Lib.hid ht
    clear ht
    cases t with
    | nil =>
      go_wp2
      go_loop [0] (fun sv => ∃ t' : List UInt8, sv = .string (S t') ∧ trimR t' = trim l ∧ t'.length ≤ l.length) (fun sv => strLen sv)
      case atStart => exact ⟨_, rfl, by rw [trim, ← trim_swap, ← HT.out, trimL_nil], htl⟩
      case round =>
        obtain ⟨t', rfl, ht', htl'⟩ := hrel
        have HT' := Lib.hid ht'
        clear ht'
        rcases snoc_cases t' with rfl | ⟨t', d, rfl⟩
        · go_wp2
          go_ret
          exact ⟨by rw [← HT'.out]; rfl, rfl⟩
        · have hb1 := bAt_snoc t' d
          have htl2 : t'.length + 1 ≤ l.length := by simpa using htl'
          have hcall' := fun W => HB.out d W
          obtain ⟨v', hv'⟩ : ∃ v', blankB d = v' := ⟨_, rfl⟩
          rw [hv'] at hcall'
          have HV' := Lib.hid hv'
          clear hv'
          cases v' with
          | true =>
            go_wp2_with (go_at_call 46; refine (hcall' _).mono ?_; rintro e w' ⟨rfl, rfl⟩)
            go_round
            case rel => exact ⟨t', by simp, by rw [← HT'.out, trimR_blank HV'.out], by omega⟩
            case measure => simp [strLen_S]
          | false =>
            go_wp2_with (go_at_call 46; refine (hcall' _).mono ?_; rintro e w' ⟨rfl, rfl⟩)
            go_ret
            exact ⟨by rw [← HT'.out, trimR_stay HV'.out]; rfl, rfl⟩
    | cons c t =>
      have hb0 : bAt (c :: t) 0 = (c.toNat : Int) := rfl
      have hcall := HB.out c w
      obtain ⟨v, hv⟩ : ∃ v, blankB c = v := ⟨_, rfl⟩
      rw [hv] at hcall
      have HV := Lib.hid hv
      clear hv
      cases v with
      | true =>
        go_wp2_with (go_at_call 46; refine hcall.mono ?_; rintro e w' ⟨rfl, rfl⟩)
        go_round
        case rel => exact ⟨t, by simp, by rw [← HT.out, trimL_blank HV.out], by simp at htl; omega⟩
        case measure => simp [strLen_S]
      | false =>
        go_wp2_with (go_at_call 46; refine hcall.mono ?_; rintro e w' ⟨rfl, rfl⟩)
        go_loop [0] (fun sv => ∃ t' : List UInt8, sv = .string (S t') ∧ trimR t' = trim l ∧ t'.length ≤ l.length) (fun sv => strLen sv)
        case atStart => exact ⟨_, rfl, by rw [trim, ← trim_swap, ← HT.out, trimL_stay HV.out], htl⟩
        case round =>
          obtain ⟨t', rfl, ht', htl'⟩ := hrel
          have HT' := Lib.hid ht'
          clear ht'
          rcases snoc_cases t' with rfl | ⟨t', d, rfl⟩
          · go_wp2
            go_ret
            exact ⟨by rw [← HT'.out]; rfl, rfl⟩
          · have hb1 := bAt_snoc t' d
            have htl2 : t'.length + 1 ≤ l.length := by simpa using htl'
            have hcall' := fun W => HB.out d W
            obtain ⟨v', hv'⟩ : ∃ v', blankB d = v' := ⟨_, rfl⟩
            rw [hv'] at hcall'
            have HV' := Lib.hid hv'
            clear hv'
            cases v' with
            | true =>
              go_wp2_with (go_at_call 46; refine (hcall' _).mono ?_; rintro e w' ⟨rfl, rfl⟩)
              go_round
              case rel => exact ⟨t', by simp, by rw [← HT'.out, trimR_blank HV'.out], by omega⟩
              case measure => simp [strLen_S]
            | false =>
              go_wp2_with (go_at_call 46; refine (hcall' _).mono ?_; rintro e w' ⟨rfl, rfl⟩)
              go_ret
              exact ⟨by rw [← HT'.out, trimR_stay HV'.out]; rfl, rfl⟩
end Go.Proofs.YtcfihoniocamaaaGreatDoor
namespace Go.Proofs.YtcfihoniocamaaaGreatDoor
open Go.RowKit Go.Sort Go.Shelf
set_option linter.unusedVariables false

/-- A text's bytes laid as a row: what the cells are. -/
theorem bytes_laid (w : World) (l : List UInt8) (c t : Nat) (hc : l.length ≤ c) : ∀ j (h : j < l.length),
    ((w.alloc (.cells (bytesRow (S l) c) t ((bytesRow (S l) c).size, (bytesRow (S l) c).size + 1))).drew).cell? ⟨w.heap.size, j, none⟩ = some (.int .u8 ((l[j].toNat : Nat) : Int)) ∧
    ((w.alloc (.cells (bytesRow (S l) c) t ((bytesRow (S l) c).size, (bytesRow (S l) c).size + 1))).drew).frozen? ⟨w.heap.size, j, none⟩ = false := fun j h => by
  have hs : (S l).data.size = l.length := by simp [S]
  have h1 := bytesRow_at (S l) c j (by rw [hs]; exact h)
  have h2 : j < (bytesRow (S l) c).size := by
    rcases Nat.lt_or_ge j (bytesRow (S l) c).size with h' | h'
    · exact h'
    · rw [Array.getElem?_eq_none h'] at h1; cases h1
  constructor
  · show (w.alloc _).cell? _ = _
    rw [World.cell?_alloc_mark, h1]
    simp [S]
  · show (w.alloc _).frozen? _ = _
    rw [World.frozen?_alloc_mark]
    simp; omega

set_option maxHeartbeats 800000 in
theorem textLower (l : List UInt8) (hl : l.length ≤ 9223372036854775807) (w : World) : Calls Tryz.prog 34 #[.string (S l)] w fun e w' => e = .returned (.string (S (lower l))) ∧ Below w.heap.size w w' := by
  have hcv := fun w => run_bytes_of_string (P := Tryz.prog) w 9 78 5 (S l) Tryz.underlying9 Tryz.underlying78 Tryz.underlying5
  have hge := grownCap_ge w l.length 0 5
  have HL := Lib.hid (bytes_laid w l (grownCap w l.length 0 5) 5 hge)
  go_enter Tryz.func34, Tryz.ntmps34
  go_wp2
  obtain ⟨cap, hcap⟩ : ∃ c, grownCap w l.length 0 5 = c := ⟨_, rfl⟩
  rw [hcap] at hge
  rw [hcap] at HL ⊢
  clear hcv hcap
  simp only [mk_S]
  go_loopw [10] (fun iv wr => ∃ k : Nat, iv = .int .i64 k ∧ k ≤ l.length ∧ (∀ j (h : j < l.length), wr.cell? ⟨w.heap.size, j, none⟩ = some (.int .u8 (((if j < k then lowB l[j] else l[j]).toNat : Nat) : Int)) ∧ wr.frozen? ⟨w.heap.size, j, none⟩ = false) ∧
      w.heap.size < wr.heap.size ∧ Below w.heap.size w wr) (fun iv _ => l.length - (intOf iv).toNat)
  case atStart => exact ⟨0, rfl, Nat.zero_le _, by simpa using HL.out, by simp, by (repeat (first | (with_reducible exact Below.refl _ _) | (with_reducible assumption) | (with_reducible refine Below.drew ?_) | (focus ((with_reducible refine Below.setCell ?_ ?_ _); rotate_left; (first | omega | (simp <;> omega)))) | (focus ((with_reducible refine Below.alloc ?_ ?_ _); rotate_left; (first | omega | (simp <;> omega)))) | exact Below.refl _ _ | assumption | refine Below.drew ?_ | refine Below.alloc ?_ (by first | omega | (simp <;> omega)) _ | refine Below.setCell ?_ (by first | omega | (simp <;> omega)) _))⟩
  case round =>
    obtain ⟨k, rfl, hk, hc, hlt, hB⟩ := hrel
    have HC := Lib.hid hc
    clear hc
    by_cases hkl : k < l.length
    · obtain ⟨h1, h2⟩ := HC.out k hkl
      rw [if_neg (Nat.lt_irrefl k)] at h1
      obtain ⟨c, hc⟩ : ∃ c, l[k] = c := ⟨_, rfl⟩
      rw [hc] at h1
      have hnext : ∀ wr' : World, (∀ j, j ≠ k → wr'.cell? ⟨w.heap.size, j, none⟩ = wr.cell? ⟨w.heap.size, j, none⟩) → (∀ j, wr'.frozen? ⟨w.heap.size, j, none⟩ = wr.frozen? ⟨w.heap.size, j, none⟩) → wr'.cell? ⟨w.heap.size, k, none⟩ = some (.int .u8 ((lowB c).toNat : Int)) →
          (∀ j (h : j < l.length), wr'.cell? ⟨w.heap.size, j, none⟩ = some (.int .u8 (((if j < k + 1 then lowB l[j] else l[j]).toNat : Nat) : Int)) ∧ wr'.frozen? ⟨w.heap.size, j, none⟩ = false) := fun wr' a b d j h => by
        obtain ⟨e1, e2⟩ := HC.out j h
        rw [b, e2]
        refine ⟨?_, rfl⟩
        by_cases hj : j = k
        · subst hj; rw [d, if_pos (by omega), hc]
        · rw [a j hj, e1]
          by_cases hj2 : j < k
          · rw [if_pos hj2, if_pos (by omega)]
          · rw [if_neg hj2, if_neg (by omega)]
      have HN := Lib.hid hnext
      clear hnext
      have hc256 := c.toNat_lt
      by_cases hg : 65 ≤ c.toNat ∧ c.toNat ≤ 90
      · obtain ⟨hg1, hg2⟩ := hg
        have hlb := lowB_great ⟨hg1, hg2⟩
        have hst : (wr.setCell ⟨w.heap.size, k, none⟩ (.int .u8 ((c.toNat : Int) + 32))).cell? ⟨w.heap.size, k, none⟩ = some (.int .u8 ((lowB c).toNat : Int)) := by rw [hlb]; exact World.cell?_setCell_same _ _ _ h1
        have HST := Lib.hid hst
        clear hst hlb
        go_wp2
        go_roundw
        case rel => exact ⟨k + 1, by go_num, by omega, HN.out _ (fun j hj => World.cell?_setCell_other _ _ _ _ (by simp <;> omega)) (fun j => by simp) (by simp only [show (c.toNat : Int) + 97 - 65 = (c.toNat : Int) + 32 by omega]; exact HST.out), by simpa using hlt, by (repeat (first | (with_reducible exact Below.refl _ _) | (with_reducible assumption) | (with_reducible refine Below.drew ?_) | (focus ((with_reducible refine Below.setCell ?_ ?_ _); rotate_left; (first | omega | (simp <;> omega)))) | (focus ((with_reducible refine Below.alloc ?_ ?_ _); rotate_left; (first | omega | (simp <;> omega)))) | exact Below.refl _ _ | assumption | refine Below.drew ?_ | refine Below.alloc ?_ (by first | omega | (simp <;> omega)) _ | refine Below.setCell ?_ (by first | omega | (simp <;> omega)) _))⟩
        case measure => simp [intOf]; omega
      · have hlb := lowB_other hg
        rw [← hlb] at h1
        rcases (by omega : c.toNat < 65 ∨ 90 < c.toNat) with hg1 | hg1
        all_goals
          have hst : wr.cell? ⟨w.heap.size, k, none⟩ = some (.int .u8 ((lowB c).toNat : Int)) := h1
          rw [hlb] at h1
          have HST := Lib.hid hst
          clear hst hlb
          go_wp2
          go_roundw
          case rel => exact ⟨k + 1, by go_num, by omega, HN.out _ (fun j hj => rfl) (fun j => rfl) HST.out, hlt, by (repeat (first | (with_reducible exact Below.refl _ _) | (with_reducible assumption) | (with_reducible refine Below.drew ?_) | (focus ((with_reducible refine Below.setCell ?_ ?_ _); rotate_left; (first | omega | (simp <;> omega)))) | (focus ((with_reducible refine Below.alloc ?_ ?_ _); rotate_left; (first | omega | (simp <;> omega)))) | exact Below.refl _ _ | assumption | refine Below.drew ?_ | refine Below.alloc ?_ (by first | omega | (simp <;> omega)) _ | refine Below.setCell ?_ (by first | omega | (simp <;> omega)) _))⟩
          case measure => simp [intOf]; omega
    · obtain rfl : k = l.length := by omega
      have hcv := run_convert_bytes_back (P := Tryz.prog) wr 78 9 5 ⟨w.heap.size, 0, none⟩ cap (lower l) Tryz.underlying78 Tryz.underlying5 Tryz.underlying9 (fun j hj => by
        rw [lower_len] at hj
        rw [Lib.add_plain, Nat.zero_add, (HC.out j hj).1, if_pos hj]
        simp [lower])
      rw [lower_len] at hcv
      go_wp2
      go_ret
      exact ⟨rfl, by (repeat (first | (with_reducible exact Below.refl _ _) | (with_reducible assumption) | (with_reducible refine Below.drew ?_) | (focus ((with_reducible refine Below.setCell ?_ ?_ _); rotate_left; (first | omega | (simp <;> omega)))) | (focus ((with_reducible refine Below.alloc ?_ ?_ _); rotate_left; (first | omega | (simp <;> omega)))) | exact Below.refl _ _ | assumption | refine Below.drew ?_ | refine Below.alloc ?_ (by first | omega | (simp <;> omega)) _ | refine Below.setCell ?_ (by first | omega | (simp <;> omega)) _))⟩

/-- A row of one byte as a text. -/
theorem conv_one (W : World) (bb : Nat) (c : UInt8) (h : W.cell? ⟨bb, 0, none⟩ = some (.int .u8 (c.toNat : Int))) : (convert 78 9 (.slice (some ⟨bb, 0, none⟩) 1 1)).run Tryz.prog W = .ok (.string (S [c])) W :=
  run_convert_bytes_back (P := Tryz.prog) W 78 9 5 ⟨bb, 0, none⟩ 1 [c] Tryz.underlying78 Tryz.underlying5 Tryz.underlying9 (fun j hj => by
    have : j = 0 := by simp at hj; omega
    subst this
    rw [Lib.add_plain]; simp [h])

set_option maxHeartbeats 800000 in
theorem refLower (l : List UInt8) (hl : l.length ≤ 4611686018427387903) (w : World) : Calls Tryz.prog 60 #[.string (S l)] w fun e w' => e = .returned (.string (S (lower l))) ∧ Below w.heap.size w w' := by
  go_enter Tryz.func60, Tryz.ntmps60
  go_wp2
  simp only [mk_S]
  go_loopw [3, 4] (fun ov iv wr => ∃ k : Nat, k ≤ l.length ∧ ov = .string (S (lower (l.take k))) ∧ iv = .int .i64 k ∧ Below w.heap.size w wr) (fun _ iv _ => l.length - (intOf iv).toNat)
  case atStart => exact ⟨0, Nat.zero_le _, rfl, rfl, by (repeat (first | (with_reducible exact Below.refl _ _) | (with_reducible assumption) | (with_reducible refine Below.drew ?_) | (focus ((with_reducible refine Below.setCell ?_ ?_ _); rotate_left; (first | omega | (simp <;> omega)))) | (focus ((with_reducible refine Below.alloc ?_ ?_ _); rotate_left; (first | omega | (simp <;> omega)))) | exact Below.refl _ _ | assumption | refine Below.drew ?_ | refine Below.alloc ?_ (by first | omega | (simp <;> omega)) _ | refine Below.setCell ?_ (by first | omega | (simp <;> omega)) _))⟩
  case round =>
    obtain ⟨k, hk, rfl, rfl, hB⟩ := hrel
    have hzr := hB.size
    by_cases hlt : k < l.length
    · have hbk : bAt l k = (l[k].toNat : Int) := bAt_eq hlt
      obtain ⟨c, hc⟩ : ∃ c, l[k] = c := ⟨_, rfl⟩
      rw [hc] at hbk
      have hlen : (lower (l.take k)).length + 1 ≤ 9223372036854775807 := by rw [lower_len]; simp; omega
      have htk : lower (l.take (k + 1)) = lower (l.take k) ++ [lowB c] := by
        unfold lower
        rw [List.take_succ_eq_append_getElem hlt, List.map_append, hc]; rfl
      obtain ⟨g, hg⟩ : ∃ g, lower (l.take k) = g := ⟨_, rfl⟩
      rw [hg] at hlen htk ⊢
      have HTK := Lib.hid htk
      clear htk hg hc
      have hc256 := c.toNat_lt
      have hcc := fun W bb => conv_one W bb (lowB c)
      by_cases hlow : 65 ≤ c.toNat ∧ c.toNat ≤ 90
      · have hui := lowB_great hlow
        obtain ⟨h1, h2⟩ := hlow
        rw [hui] at hcc
        go_wp2
        go_roundw
        case rel => exact ⟨k + 1, by omega, by rw [HTK.out], by go_num, by (repeat (first | (with_reducible exact Below.refl _ _) | (with_reducible assumption) | (with_reducible refine Below.drew ?_) | (focus ((with_reducible refine Below.setCell ?_ ?_ _); rotate_left; (first | omega | (simp <;> omega)))) | (focus ((with_reducible refine Below.alloc ?_ ?_ _); rotate_left; (first | omega | (simp <;> omega)))) | exact Below.refl _ _ | assumption | refine Below.drew ?_ | refine Below.alloc ?_ (by first | omega | (simp <;> omega)) _ | refine Below.setCell ?_ (by first | omega | (simp <;> omega)) _))⟩
        case measure => simp [intOf]; omega
      · have hui := lowB_other hlow
        rw [hui] at hcc
        rw [hui] at HTK
        rcases (by omega : c.toNat < 65 ∨ 90 < c.toNat) with hg1 | hg1
        all_goals
          go_wp2
          go_roundw
          case rel => exact ⟨k + 1, by omega, by rw [HTK.out], by go_num, by (repeat (first | (with_reducible exact Below.refl _ _) | (with_reducible assumption) | (with_reducible refine Below.drew ?_) | (focus ((with_reducible refine Below.setCell ?_ ?_ _); rotate_left; (first | omega | (simp <;> omega)))) | (focus ((with_reducible refine Below.alloc ?_ ?_ _); rotate_left; (first | omega | (simp <;> omega)))) | exact Below.refl _ _ | assumption | refine Below.drew ?_ | refine Below.alloc ?_ (by first | omega | (simp <;> omega)) _ | refine Below.setCell ?_ (by first | omega | (simp <;> omega)) _))⟩
          case measure => simp [intOf]; omega
    · obtain rfl : k = l.length := by omega
      rw [List.take_length]
      go_wp2
      go_ret
      exact ⟨rfl, by (repeat (first | (with_reducible exact Below.refl _ _) | (with_reducible assumption) | (with_reducible refine Below.drew ?_) | (focus ((with_reducible refine Below.setCell ?_ ?_ _); rotate_left; (first | omega | (simp <;> omega)))) | (focus ((with_reducible refine Below.alloc ?_ ?_ _); rotate_left; (first | omega | (simp <;> omega)))) | exact Below.refl _ _ | assumption | refine Below.drew ?_ | refine Below.alloc ?_ (by first | omega | (simp <;> omega)) _ | refine Below.setCell ?_ (by first | omega | (simp <;> omega)) _))⟩

set_option maxHeartbeats 400000 in
theorem textSame (l m : List UInt8) (hl : l.length ≤ 9223372036854775807) (hm : m.length ≤ 9223372036854775807) (w : World) : Calls Tryz.prog 82 #[.string (S l), .string (S m)] w fun e w' => e = .returned (.bool (lower l == lower m)) ∧ Below w.heap.size w w' := by
  have C1 := Lib.hid (fun W => textLower l hl W)
  have C2 := Lib.hid (fun W => textLower m hm W)
  go_enter Tryz.func82, Tryz.ntmps82
  go_wp2_with fail
  refine (C1.out _).mono ?_
  rintro e w1 ⟨rfl, hb1⟩
  go_wp2_with fail
  refine (C2.out _).mono ?_
  rintro e w2 ⟨rfl, hb2⟩
  have hb := hb1.trans (hb2.mono hb1.size)
  go_wp2
  go_ret
  exact ⟨by rfl, hb⟩
end Go.Proofs.YtcfihoniocamaaaGreatDoor
