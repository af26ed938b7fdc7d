/- Walks of the reference's small functions on addresses. -/
import Derived.Test.YtpglgembgpoeiaaDoorStrs
namespace Go.Proofs.YtpglgembgpoeiaaDoor
open Go.RowKit
set_option linter.unusedVariables false

theorem hasPrefix_take {s t : List UInt8} : Lib.hasPrefix s t = true ↔ t.length ≤ s.length ∧ (s.take t.length == t) = true := by
  unfold Lib.hasPrefix
  rw [List.isPrefixOf_iff_prefix, List.prefix_iff_eq_take]
  constructor
  · intro h
    refine ⟨?_, by simpa using h.symm⟩
    have := congrArg List.length h
    simp at this; omega
  · rintro ⟨_, h⟩
    have : s.take t.length = t := by simpa using h
    exact this.symm

set_option maxHeartbeats 400000 in
theorem begins_S {s t : List UInt8} {b : Bool} (hs : s.length ≤ 4611686018427387903) (ht : t.length ≤ 4611686018427387903) (h : Lib.hasPrefix s t = b) (w : World) : Calls Tryd.prog 20 #[.string (S s), .string (S t)] w fun e w' => e = .returned (.bool b) ∧ w' = w := by
  by_cases hl : t.length ≤ s.length
  · have hb : (s.take t.length == t) = b := by
      cases b
      · cases hx : (s.take t.length == t)
        · rfl
        · have := hasPrefix_take.2 ⟨hl, hx⟩; rw [h] at this; cases this
      · exact (hasPrefix_take.1 h).2
    obtain ⟨x, hx⟩ : ∃ x, s.take t.length = x := ⟨_, rfl⟩
    rw [hx] at hb
    clear h
    go_enter Tryd.func20, Tryd.ntmps20
    go_wp2
    go_ret
    exact ⟨rfl, rfl⟩
  · have hb : b = false := by
      cases b
      · rfl
      · exact absurd (hasPrefix_take.1 h).1 hl
    subst hb
    clear h
    go_enter Tryd.func20, Tryd.ntmps20
    go_wp2
    go_ret
    exact ⟨rfl, rfl⟩
set_option maxHeartbeats 400000 in
theorem last_S {l : List UInt8} {c : UInt8} {ci i : Int} (hci : (c.toNat : Int) = ci) (hl : l.length ≤ 4611686018427387903) (h : lastL l c = i) (w : World) : Calls Tryd.prog 47 #[.string (S l), .int .u8 ci] w fun e w' => e = .returned (.int .i64 i) ∧ w' = w := by
  have H := Lib.hid h
  have HC := Lib.hid hci
  clear h hci
  go_enter Tryd.func47, Tryd.ntmps47
  go_wp2
  go_loop [5, 6] (fun nv iv => ∃ k : Nat, k ≤ l.length ∧ nv = .int .i64 (lastL (l.take k) c) ∧ iv = .int .i64 k) (fun _ iv => l.length - (intOf iv).toNat)
  case atStart => exact ⟨0, Nat.zero_le _, rfl, rfl⟩
  case round =>
    obtain ⟨k, hk, rfl, rfl⟩ := hrel
    by_cases hlt : k < l.length
    · have hsn : lastL (l.take (k + 1)) c = if l[k] = c then (k : Int) else lastL (l.take k) c := by
        rw [List.take_succ_eq_append_getElem hlt, lastL_snoc, List.length_take, Nat.min_eq_left (by omega)]
      obtain ⟨m, hm⟩ : ∃ m, lastL (l.take k) c = m := ⟨_, rfl⟩
      rw [hm] at hsn ⊢
      by_cases hc : l[k] = c
      · rw [if_pos hc] at hsn
        have hb : (bAt l k == ci) = true := by rw [bAt_eq hlt, hc, HC.out]; simp
        have HS := Lib.hid hsn
        clear hsn hc hm
        go_wp2
        go_round
        case rel => exact ⟨k + 1, by omega, by rw [HS.out], by go_num⟩
        case measure => simp [intOf]; omega
      · rw [if_neg hc] at hsn
        have hb : (bAt l k == ci) = false := by
          rw [bAt_eq hlt, ← HC.out]; simp; intro e; exact hc (UInt8.toNat.inj (by omega))
        have HS := Lib.hid hsn
        clear hsn hc hm
        go_wp2
        go_round
        case rel => exact ⟨k + 1, by omega, by rw [HS.out], by go_num⟩
        case measure => simp [intOf]; omega
    · obtain rfl : k = l.length := by omega
      have ht : lastL (l.take l.length) c = i := by rw [List.take_length]; exact H.out
      go_wp2
      go_ret
      exact ⟨by rw [← H.out]; simp, rfl⟩
end Go.Proofs.YtpglgembgpoeiaaDoor
