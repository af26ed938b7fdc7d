/- The set of bytes that no text has; text.Unquote: the walks. -/
import Derived.Test.YtcfihoniocamaaaGreatDoorPk5
import Derived.Test.YtcfihoniocamaaaGreatDoorPk29
import Derived.Test.YtcfihoniocamaaaGreatDoorPk3
namespace Go.Proofs.YtcfihoniocamaaaGreatDoor
open Go.RowKit Go.Sort Go.Shelf
set_option linter.unusedVariables false

def falsesB : Array Value := Array.replicate 256 (.bool false)
theorem zeroB (w : World) : (zeroValue 105).run Tryz.prog w = .ok (.agg falsesB) w := by kernel_rfl
theorem falsesB_at (j : Nat) (h : j < 256) : falsesB[j]? = some (.bool false) := by
  unfold falsesB; simp [h]

set_option maxHeartbeats 1600000 in
set_option maxRecDepth 100000 in
theorem controls_any (w : World) : Calls Tryz.prog 71 #[] w fun e w' => e = .returned (.pointer (some ⟨w.heap.size, 0, none⟩)) ∧ Below w.heap.size w w' ∧
    w.heap.size < w'.heap.size ∧ ∀ c : UInt8, w'.cell? ⟨w.heap.size, c.toNat, none⟩ = some (.bool (ctlB c)) := by
  have hz := zeroB
  go_enter Tryz.func71, Tryz.ntmps71
  go_wp2
  go_loopw [3] (fun iv wr => ∃ k : Nat, iv = .int .i64 k ∧ k ≤ 256 ∧ (∀ j, j < 256 → wr.cell? ⟨w.heap.size, j, none⟩ = some (.bool (if j < k then ctlB (UInt8.ofNat j) else false)) ∧ wr.frozen? ⟨w.heap.size, j, none⟩ = false) ∧
      w.heap.size < wr.heap.size ∧ Below w.heap.size w wr) (fun iv _ => 256 - (intOf iv).toNat)
  case atStart => exact ⟨0, rfl, Nat.zero_le _, fun j hj => ⟨by rw [World.cell?_alloc_new, falsesB_at j hj]; simp, by simp⟩, by simp, by (repeat (first | (with_reducible exact Below.refl _ _) | (with_reducible assumption) | (with_reducible refine Below.drew ?_) | (focus ((with_reducible refine Below.setCell ?_ ?_ _); rotate_left; (first | omega | (simp <;> omega)))) | (focus ((with_reducible refine Below.alloc ?_ ?_ _); rotate_left; (first | omega | (simp <;> omega)))) | exact Below.refl _ _ | assumption | refine Below.drew ?_ | refine Below.alloc ?_ (by first | omega | (simp <;> omega)) _ | refine Below.setCell ?_ (by first | omega | (simp <;> omega)) _))⟩
  case round =>
    obtain ⟨k, rfl, hk, hc, hlt, hB⟩ := hrel
    have HC := Lib.hid hc
    clear hc
    by_cases hkl : k < 256
    · obtain ⟨h1, h2⟩ := HC.out k hkl
      rw [if_neg (Nat.lt_irrefl k)] at h1
      have HN := Lib.hid (show ∀ b, b = ctlB (UInt8.ofNat k) → (∀ j, j < 256 → (wr.setCell ⟨w.heap.size, k, none⟩ (.bool b)).cell? ⟨w.heap.size, j, none⟩ = some (.bool (if j < k + 1 then ctlB (UInt8.ofNat j) else false)) ∧ (wr.setCell ⟨w.heap.size, k, none⟩ (.bool b)).frozen? ⟨w.heap.size, j, none⟩ = false) from fun b hb j h => by
        obtain ⟨e1, e2⟩ := HC.out j h
        refine ⟨?_, by simpa using e2⟩
        by_cases hj : j = k
        · subst hj; rw [if_pos (by omega), ← hb]; exact World.cell?_setCell_same _ _ _ h1
        · rw [World.cell?_setCell_other _ _ _ _ (by simp <;> omega), e1]
          by_cases hj2 : j < k
          · rw [if_pos hj2, if_pos (by omega)]
          · rw [if_neg hj2, if_neg (by omega)])
      have hw8 : (UInt8.ofNat k).toNat = k := by simp; omega
      have hw : ctlB (UInt8.ofNat k) = ((decide (k < 32) && !decide (k = 9)) || decide (k = 127)) := by
        unfold ctlB
        rw [hw8]
      have HW := Lib.hid hw
      clear hw hw8
      by_cases a1 : k < 32
      · have a1i : (k : Int) < 32 := by omega
        by_cases a2 : k = 9
        · have HE := Lib.hid (show false = ctlB (UInt8.ofNat k) by rw [HW.out]; simp [a2])
          have a2i : ((k : Int) != 9) = false := by simp; omega
          have a3i : ((k : Int) == 127) = false := by simp; omega
          clear a2
          go_wp2
          go_roundw
          case rel => exact ⟨k + 1, by go_num, by omega, HN.out _ HE.out, by simpa using hlt, by (repeat (first | (with_reducible exact Below.refl _ _) | (with_reducible assumption) | (with_reducible refine Below.drew ?_) | (focus ((with_reducible refine Below.setCell ?_ ?_ _); rotate_left; (first | omega | (simp <;> omega)))) | (focus ((with_reducible refine Below.alloc ?_ ?_ _); rotate_left; (first | omega | (simp <;> omega)))) | exact Below.refl _ _ | assumption | refine Below.drew ?_ | refine Below.alloc ?_ (by first | omega | (simp <;> omega)) _ | refine Below.setCell ?_ (by first | omega | (simp <;> omega)) _))⟩
          case measure => simp [intOf]; omega
        · have HE := Lib.hid (show true = ctlB (UInt8.ofNat k) by rw [HW.out]; simp [a1, a2])
          have a2i : ((k : Int) != 9) = true := by simp; omega
          go_wp2
          go_roundw
          case rel => exact ⟨k + 1, by go_num, by omega, HN.out _ HE.out, by simpa using hlt, by (repeat (first | (with_reducible exact Below.refl _ _) | (with_reducible assumption) | (with_reducible refine Below.drew ?_) | (focus ((with_reducible refine Below.setCell ?_ ?_ _); rotate_left; (first | omega | (simp <;> omega)))) | (focus ((with_reducible refine Below.alloc ?_ ?_ _); rotate_left; (first | omega | (simp <;> omega)))) | exact Below.refl _ _ | assumption | refine Below.drew ?_ | refine Below.alloc ?_ (by first | omega | (simp <;> omega)) _ | refine Below.setCell ?_ (by first | omega | (simp <;> omega)) _))⟩
          case measure => simp [intOf]; omega
      · have a1i : 32 ≤ (k : Int) := by omega
        by_cases a2 : k = 127
        · have HE := Lib.hid (show true = ctlB (UInt8.ofNat k) by rw [HW.out]; simp [a2])
          have a3i : ((k : Int) == 127) = true := by simp; omega
          clear a2
          go_wp2
          go_roundw
          case rel => exact ⟨k + 1, by go_num, by omega, HN.out _ HE.out, by simpa using hlt, by (repeat (first | (with_reducible exact Below.refl _ _) | (with_reducible assumption) | (with_reducible refine Below.drew ?_) | (focus ((with_reducible refine Below.setCell ?_ ?_ _); rotate_left; (first | omega | (simp <;> omega)))) | (focus ((with_reducible refine Below.alloc ?_ ?_ _); rotate_left; (first | omega | (simp <;> omega)))) | exact Below.refl _ _ | assumption | refine Below.drew ?_ | refine Below.alloc ?_ (by first | omega | (simp <;> omega)) _ | refine Below.setCell ?_ (by first | omega | (simp <;> omega)) _))⟩
          case measure => simp [intOf]; omega
        · have HE := Lib.hid (show false = ctlB (UInt8.ofNat k) by rw [HW.out]; simp [a1, a2])
          have a3i : ((k : Int) == 127) = false := by simp; omega
          go_wp2
          go_roundw
          case rel => exact ⟨k + 1, by go_num, by omega, HN.out _ HE.out, by simpa using hlt, by (repeat (first | (with_reducible exact Below.refl _ _) | (with_reducible assumption) | (with_reducible refine Below.drew ?_) | (focus ((with_reducible refine Below.setCell ?_ ?_ _); rotate_left; (first | omega | (simp <;> omega)))) | (focus ((with_reducible refine Below.alloc ?_ ?_ _); rotate_left; (first | omega | (simp <;> omega)))) | exact Below.refl _ _ | assumption | refine Below.drew ?_ | refine Below.alloc ?_ (by first | omega | (simp <;> omega)) _ | refine Below.setCell ?_ (by first | omega | (simp <;> omega)) _))⟩
          case measure => simp [intOf]; omega
    · obtain rfl : k = 256 := by omega
      go_wp2
      go_ret
      refine ⟨rfl, hB, hlt, fun c => ?_⟩
      rw [(HC.out c.toNat c.toNat_lt).1, if_pos c.toNat_lt]
      simp

/-- The set's test, at a block that is the set of bytes that no text has. -/
theorem hasCtl_any (b : Nat) (c : UInt8) (W : World) (h : W.cell? ⟨b, c.toNat, none⟩ = some (.bool (ctlB c))) : Calls Tryz.prog 69 #[.pointer (some ⟨b, 0, none⟩), .int .u8 (c.toNat : Int)] W fun e w' => e = .returned (.bool (ctlB c)) ∧ w' = W := by
  have hc256 := c.toNat_lt
  go_enter Tryz.func69, Tryz.ntmps69
  go_wp2
  go_ret
  exact ⟨rfl, rfl⟩

set_option maxHeartbeats 800000 in
theorem some_any (g b : Nat) (eg : ∀ args w, (callFunc g args).run Tryz.prog w = .ok (.enter g args) w) (W : World)
    (hcl : ∀ c : UInt8, Calls Tryz.prog g #[.pointer (some ⟨b, 0, none⟩), .int .u8 (c.toNat : Int)] W fun e w' => e = .returned (.bool (ctlB c)) ∧ w' = W)
    (l : List UInt8) (hl : l.length ≤ 9223372036854775807) :
    Calls Tryz.prog 70 #[.string (S l), .pointer (some ⟨b, 0, none⟩), .func (.func g) #[] #[]] W fun e w' => e = .returned (.bool (l.any ctlB)) ∧ w' = W := by
  have HC := Lib.hid hcl
  clear hcl
  go_enter Tryz.func70, Tryz.ntmps70
  go_wp2
  go_loop [10] (fun iv => ∃ k : Nat, iv = .int .i64 k ∧ k ≤ l.length ∧ (l.take k).any ctlB = false) (fun iv => l.length - (intOf iv).toNat)
  case atStart => exact ⟨0, rfl, Nat.zero_le _, rfl⟩
  case round =>
    obtain ⟨k, rfl, hk, hall⟩ := hrel
    have HA := Lib.hid hall
    clear hall
    by_cases hlt : k < l.length
    · have hbk : bAt l k = (l[k].toNat : Int) := bAt_eq hlt
      have htk : (l.take (k + 1)).any ctlB = ctlB l[k] := by
        rw [List.take_succ_eq_append_getElem hlt, List.any_append, HA.out]; simp
      have hno : ctlB l[k] = true → l.any ctlB = true := fun h => by
        rw [List.any_eq_true]; exact ⟨_, List.getElem_mem hlt, h⟩
      obtain ⟨c, hc⟩ : ∃ c, l[k] = c := ⟨_, rfl⟩
      rw [hc] at hbk htk hno
      have hcall := HC.out c
      obtain ⟨v, hv⟩ : ∃ v, ctlB c = v := ⟨_, rfl⟩
      rw [hv] at hcall htk hno
      have HTK := Lib.hid htk
      have HNO := Lib.hid hno
      clear htk hno hv hc
      cases v with
      | false =>
        go_wp2_with (go_at_fn g; refine hcall.mono ?_; rintro e w' ⟨rfl, rfl⟩)
        go_round
        case rel => exact ⟨k + 1, by go_num, by omega, HTK.out⟩
        case measure => simp [intOf]; omega
      | true =>
        go_wp2_with (go_at_fn g; refine hcall.mono ?_; rintro e w' ⟨rfl, rfl⟩)
        go_ret
        exact ⟨by rw [HNO.out trivial]; rfl, rfl⟩
    · obtain rfl : k = l.length := by omega
      have h := HA.out
      rw [List.take_length] at h
      have H := Lib.hid h
      clear h
      go_wp2
      go_ret
      exact ⟨by rw [H.out]; rfl, rfl⟩
end Go.Proofs.YtcfihoniocamaaaGreatDoor
