/- Walks of the reference's small functions on addresses. uri.Right and the document's Right: the walks. -/
import Derived.Test.YtgjemgilanhdiaaGreatDoorRf2
import Derived.Test.YtgjemgilanhdiaaGreatDoorRf6
import Derived.Test.YtgjemgilanhdiaaGreatDoorRf4
namespace Go.Proofs.YtgjemgilanhdiaaGreatDoor
open Go.RowKit
set_option linter.unusedVariables false

theorem hasPrefix_take {s t : List UInt8} : Lib.hasPrefix s t = true ↔ t.length ≤ s.length ∧ (s.take t.length == t) = true := by
  unfold Lib.hasPrefix
  rw [List.isPrefixOf_iff_prefix, List.prefix_iff_eq_take]
  constructor
  · intro h
    refine ⟨?_, by simpa using h.symm⟩
    have := congrArg List.length h
    simp at this; omega
  · rintro ⟨_, h⟩
    have : s.take t.length = t := by simpa using h
    exact this.symm

set_option maxHeartbeats 400000 in
theorem begins_S {s t : List UInt8} {b : Bool} (hs : s.length ≤ 4611686018427387903) (ht : t.length ≤ 4611686018427387903) (h : Lib.hasPrefix s t = b) (w : World) : Calls Tryz.prog 49 #[.string (S s), .string (S t)] w fun e w' => e = .returned (.bool b) ∧ w' = w := by
  by_cases hl : t.length ≤ s.length
  · have hb : (s.take t.length == t) = b := by
      cases b
      · cases hx : (s.take t.length == t)
        · rfl
        · have := hasPrefix_take.2 ⟨hl, hx⟩; rw [h] at this; cases this
      · exact (hasPrefix_take.1 h).2
    obtain ⟨x, hx⟩ : ∃ x, s.take t.length = x := ⟨_, rfl⟩
    rw [hx] at hb
    clear h
    go_enter Tryz.func49, Tryz.ntmps49
    go_wp2
    go_ret
    exact ⟨rfl, rfl⟩
  · have hb : b = false := by
      cases b
      · rfl
      · exact absurd (hasPrefix_take.1 h).1 hl
    subst hb
    clear h
    go_enter Tryz.func49, Tryz.ntmps49
    go_wp2
    go_ret
    exact ⟨rfl, rfl⟩
set_option maxHeartbeats 400000 in
theorem last_S {l : List UInt8} {c : UInt8} {ci i : Int} (hci : (c.toNat : Int) = ci) (hl : l.length ≤ 4611686018427387903) (h : lastL l c = i) (w : World) : Calls Tryz.prog 79 #[.string (S l), .int .u8 ci] w fun e w' => e = .returned (.int .i64 i) ∧ w' = w := by
  have H := Lib.hid h
  have HC := Lib.hid hci
  clear h hci
  go_enter Tryz.func79, Tryz.ntmps79
  go_wp2
  go_loop [5, 6] (fun nv iv => ∃ k : Nat, k ≤ l.length ∧ nv = .int .i64 (lastL (l.take k) c) ∧ iv = .int .i64 k) (fun _ iv => l.length - (intOf iv).toNat)
  case atStart => exact ⟨0, Nat.zero_le _, rfl, rfl⟩
  case round =>
    obtain ⟨k, hk, rfl, rfl⟩ := hrel
    by_cases hlt : k < l.length
    · have hsn : lastL (l.take (k + 1)) c = if l[k] = c then (k : Int) else lastL (l.take k) c := by
        rw [List.take_succ_eq_append_getElem hlt, lastL_snoc, List.length_take, Nat.min_eq_left (by omega)]
      obtain ⟨m, hm⟩ : ∃ m, lastL (l.take k) c = m := ⟨_, rfl⟩
      rw [hm] at hsn ⊢
      by_cases hc : l[k] = c
      · rw [if_pos hc] at hsn
        have hb : (bAt l k == ci) = true := by rw [bAt_eq hlt, hc, HC.out]; simp
        have HS := Lib.hid hsn
        clear hsn hc hm
        go_wp2
        go_round
        case rel => exact ⟨k + 1, by omega, by rw [HS.out], by go_num⟩
        case measure => simp [intOf]; omega
      · rw [if_neg hc] at hsn
        have hb : (bAt l k == ci) = false := by
          rw [bAt_eq hlt, ← HC.out]; simp; intro e; exact hc (UInt8.toNat.inj (by omega))
        have HS := Lib.hid hsn
        clear hsn hc hm
        go_wp2
        go_round
        case rel => exact ⟨k + 1, by omega, by rw [HS.out], by go_num⟩
        case measure => simp [intOf]; omega
    · obtain rfl : k = l.length := by omega
      have ht : lastL (l.take l.length) c = i := by rw [List.take_length]; exact H.out
      go_wp2
      go_ret
      exact ⟨by rw [← H.out]; simp, rfl⟩
end Go.Proofs.YtgjemgilanhdiaaGreatDoor
namespace Go.Proofs.YtgjemgilanhdiaaGreatDoor
open Go.RowKit Go.Sort Go.Shelf
set_option linter.unusedVariables false

def rightU (a : Bool) (h : List UInt8) (n : Int) (p : List UInt8) (q : Bool) (y : List UInt8) : Bool :=
  !(p.any badU) && !(y.any badU) && !(decide (0 ≤ Lib.indexByte p 63)) && (q || y.isEmpty) && decide (0 ≤ n) && decide (n ≤ 65535) && decide ((writeL a h n.toNat p q y).length ≤ 500) &&
    (if a then hostL h && Lib.hasPrefix p [47] else h.isEmpty && decide (n = 0) && !Lib.hasPrefix p [47, 47] && !decide (0 ≤ Lib.indexByte (cut1 p 47).1 58))

theorem same_below {f : Nat} {args : Array Value} {w : World} {v : Value} (h : Calls Tryz.prog f args w fun e w' => e = .returned v ∧ w' = w) : Calls Tryz.prog f args w fun e w' => e = .returned v ∧ Below w.heap.size w w' :=
  h.mono fun e w' h' => ⟨h'.1, h'.2 ▸ Below.refl _ _⟩

theorem uriWriteI (a : Bool) (h : List UInt8) (n : Int) (p : List UInt8) (q : Bool) (y : List UInt8) (hh : h.length ≤ 1000000) (h0 : 0 ≤ n) (hn : n ≤ 65535) (hp : p.length ≤ 1000000) (hy : y.length ≤ 1000000) (w : World) (hL : Laid w) :
    Calls Tryz.prog 75 #[uv a h n p q y] w fun e w' => e = .returned (.string (S (writeL a h n.toNat p q y))) ∧ Below w.heap.size w w' := by
  obtain ⟨m, rfl⟩ : ∃ m : Nat, n = m := ⟨n.toNat, by omega⟩
  rw [Int.toNat_natCast]
  exact uriWrite a h m p q y hh (by omega) hp hy w hL
theorem refWriteI (a : Bool) (h : List UInt8) (n : Int) (p : List UInt8) (q : Bool) (y : List UInt8) (hh : h.length ≤ 1000000) (h0 : 0 ≤ n) (hn : n ≤ 65535) (hp : p.length ≤ 1000000) (hy : y.length ≤ 1000000) (w : World) (hL : Laid w) :
    Calls Tryz.prog 54 #[uv a h n p q y] w fun e w' => e = .returned (.string (S (writeL a h n.toNat p q y))) ∧ Below w.heap.size w w' := by
  obtain ⟨m, rfl⟩ : ∃ m : Nat, n = m := ⟨n.toNat, by omega⟩
  rw [Int.toNat_natCast]
  exact refWrite a h m p q y hh (by omega) hp hy w hL

theorem writeL_len (a : Bool) (h : List UInt8) (n : Nat) (p : List UInt8) (q : Bool) (y : List UInt8) (hn : n ≤ 65535) : (writeL a h n p q y).length ≤ h.length + p.length + y.length + 40 := by
  have hdl : (Lib.decDigits n).length ≤ 20 := by rw [Lib.decDigits_length]; exact Lib.nDigits_le20 n (by omega)
  unfold writeL httpL
  cases a <;> cases q <;> by_cases h0 : n = 0 <;> simp [h0] <;> omega

set_option maxHeartbeats 3200000 in
set_option maxRecDepth 100000 in
theorem uriRight (a : Bool) (h : List UInt8) (n : Int) (p : List UInt8) (q : Bool) (y : List UInt8) (hh : h.length ≤ 1000000) (hp : p.length ≤ 1000000) (hy : y.length ≤ 1000000) (w : World) (hL : Laid w) :
    Calls Tryz.prog 43 #[uv a h n p q y] w fun e w' => e = .returned (.bool (rightU a h n p q y)) ∧ Below w.heap.size w w' := by
  have C1 := Lib.hid (fun W => uriBytes p (by omega) W)
  have C2 := Lib.hid (fun W => uriBytes y (by omega) W)
  have C3 := Lib.hid (fun W => same_below (contains1_S (l := p) (c := 63) rfl W))
  have C4 := Lib.hid (fun W (hb : Below w.heap.size w W) h0 hn => uriWriteI a h n p q y hh h0 hn hp hy W (hL.on hb))
  have C5 := Lib.hid (fun W => uriHost h (by omega) W)
  have C6 := Lib.hid (fun W => same_below (hasPrefix_S (s := p) (p := [47]) rfl W))
  obtain ⟨f, g, t, hcut⟩ : ∃ f g t, cut1 p 47 = (f, g, t) := ⟨_, _, _, rfl⟩
  have C7 := Lib.hid (fun W => cut1_S hcut (by omega) W)
  have C8 := Lib.hid (fun W => same_below (hasPrefix_S (s := p) (p := [47, 47]) rfl W))
  have C9 := Lib.hid (fun W => same_below (contains1_S (l := f) (c := 58) rfl W))
  unfold rightU
  rw [hcut]
  simp only at *
  have HWL := Lib.hid (fun hn => writeL_len a h n.toNat p q y hn)
  obtain ⟨b1, hb1⟩ : ∃ b, p.any badU = b := ⟨_, rfl⟩
  obtain ⟨b2, hb2⟩ : ∃ b, y.any badU = b := ⟨_, rfl⟩
  obtain ⟨b3, hb3⟩ : ∃ b, decide (0 ≤ Lib.indexByte p 63) = b := ⟨_, rfl⟩
  obtain ⟨wl, hwl⟩ : ∃ b, writeL a h n.toNat p q y = b := ⟨_, rfl⟩
  obtain ⟨b5, hb5⟩ : ∃ b, hostL h = b := ⟨_, rfl⟩
  obtain ⟨b6, hb6⟩ : ∃ b, Lib.hasPrefix p [47] = b := ⟨_, rfl⟩
  obtain ⟨b8, hb8⟩ : ∃ b, Lib.hasPrefix p [47, 47] = b := ⟨_, rfl⟩
  obtain ⟨b9, hb9⟩ : ∃ b, decide (0 ≤ Lib.indexByte f 58) = b := ⟨_, rfl⟩
  rw [hb1] at C1
  rw [hb2] at C2
  rw [hb3] at C3
  rw [hwl] at C4 HWL
  rw [hb5] at C5
  rw [hb6] at C6
  rw [hb8] at C8
  rw [hb9] at C9
  rw [hb1, hb2, hb3, hwl, hb5, hb6, hb8, hb9]
  obtain ⟨tl, htl⟩ : ∃ tl, (if a then b5 && b6 else h.isEmpty && decide (n = 0) && !b8 && !b9) = tl := ⟨_, rfl⟩
  rw [htl]
  have HT := Lib.hid htl
  clear hb1 hb2 hb3 hwl hb5 hb6 hb8 hb9 hcut hL htl
  go_enter Tryz.func43, Tryz.ntmps43
  go_wp2_with fail
  refine Calls.mono (C1.out _) ?_
  rintro e w1 ⟨rfl, hb_w1⟩
  have hz_w1 := hb_w1.size
  try simp at hz_w1
  obtain ⟨c1__0, f1__0⟩ := bk hb_w1 (w.heap.size) (by first | omega | (simp <;> omega))
  have c1__0_0 := c1__0 0; conv at c1__0_0 => rhs; simp [go_sem, *]
  have f1__0_0 := f1__0 0; conv at f1__0_0 => rhs; simp [go_sem, *]
  have c1__0_1 := c1__0 1; conv at c1__0_1 => rhs; simp [go_sem, *]
  have f1__0_1 := f1__0 1; conv at f1__0_1 => rhs; simp [go_sem, *]
  have c1__0_2 := c1__0 2; conv at c1__0_2 => rhs; simp [go_sem, *]
  have f1__0_2 := f1__0 2; conv at f1__0_2 => rhs; simp [go_sem, *]
  have c1__0_3 := c1__0 3; conv at c1__0_3 => rhs; simp [go_sem, *]
  have f1__0_3 := f1__0 3; conv at f1__0_3 => rhs; simp [go_sem, *]
  have c1__0_4 := c1__0 4; conv at c1__0_4 => rhs; simp [go_sem, *]
  have f1__0_4 := f1__0 4; conv at f1__0_4 => rhs; simp [go_sem, *]
  have c1__0_5 := c1__0 5; conv at c1__0_5 => rhs; simp [go_sem, *]
  have f1__0_5 := f1__0 5; conv at f1__0_5 => rhs; simp [go_sem, *]
  have HH_w1 := Lib.hid hb_w1
  have hB_w1 : Below w.heap.size w w1 := Below.trans (by (repeat (first | with_reducible exact Below.refl _ _ | with_reducible assumption | with_reducible refine Below.drew ?_ | (with_reducible refine Below.setCell ?_ ?_ _; rotate_left; (first | omega | (simp <;> omega))) | (with_reducible refine Below.alloc ?_ ?_ _; rotate_left; (first | omega | (simp <;> omega))) | exact Below.refl _ _ | assumption))) (hb_w1.mono (by first | omega | (simp <;> omega)))
  clear hb_w1 c1__0 f1__0
  have far_w1_w_0 := far (show w.heap.size < w1.heap.size by omega)
  cases b1 with
  | true =>
    go_wp2
    go_ret
    exact ⟨by simp, by (repeat (first | with_reducible exact Below.refl _ _ | with_reducible assumption | with_reducible refine Below.drew ?_ | (with_reducible refine Below.setCell ?_ ?_ _; rotate_left; (first | omega | (simp <;> omega))) | (with_reducible refine Below.alloc ?_ ?_ _; rotate_left; (first | omega | (simp <;> omega))) | exact Below.refl _ _ | assumption))⟩
  | false =>
    go_wp2_with fail
    refine Calls.mono (C2.out _) ?_
    rintro e w2 ⟨rfl, hb_w2⟩
    have hz_w2 := hb_w2.size
    try simp at hz_w2
    obtain ⟨c2__0, f2__0⟩ := bk hb_w2 (w.heap.size) (by first | omega | (simp <;> omega))
    have c2__0_0 := c2__0 0; conv at c2__0_0 => rhs; simp [go_sem, *]
    have f2__0_0 := f2__0 0; conv at f2__0_0 => rhs; simp [go_sem, *]
    have c2__0_1 := c2__0 1; conv at c2__0_1 => rhs; simp [go_sem, *]
    have f2__0_1 := f2__0 1; conv at f2__0_1 => rhs; simp [go_sem, *]
    have c2__0_2 := c2__0 2; conv at c2__0_2 => rhs; simp [go_sem, *]
    have f2__0_2 := f2__0 2; conv at f2__0_2 => rhs; simp [go_sem, *]
    have c2__0_3 := c2__0 3; conv at c2__0_3 => rhs; simp [go_sem, *]
    have f2__0_3 := f2__0 3; conv at f2__0_3 => rhs; simp [go_sem, *]
    have c2__0_4 := c2__0 4; conv at c2__0_4 => rhs; simp [go_sem, *]
    have f2__0_4 := f2__0 4; conv at f2__0_4 => rhs; simp [go_sem, *]
    have c2__0_5 := c2__0 5; conv at c2__0_5 => rhs; simp [go_sem, *]
    have f2__0_5 := f2__0 5; conv at f2__0_5 => rhs; simp [go_sem, *]
    have HH_w2 := Lib.hid hb_w2
    have hB_w2 : Below w.heap.size w w2 := Below.trans (by (repeat (first | with_reducible exact Below.refl _ _ | with_reducible assumption | with_reducible refine Below.drew ?_ | (with_reducible refine Below.setCell ?_ ?_ _; rotate_left; (first | omega | (simp <;> omega))) | (with_reducible refine Below.alloc ?_ ?_ _; rotate_left; (first | omega | (simp <;> omega))) | exact Below.refl _ _ | assumption))) (hb_w2.mono (by first | omega | (simp <;> omega)))
    clear hb_w2 c2__0 f2__0
    try clear c1__0_0 f1__0_0 c1__0_1 f1__0_1 c1__0_2 f1__0_2 c1__0_3 f1__0_3 c1__0_4 f1__0_4 c1__0_5 f1__0_5 far_w1_w_0 hB_w1
    have far_w2_w_0 := far (show w.heap.size < w2.heap.size by omega)
    cases b2 with
    | true =>
      go_wp2
      go_ret
      exact ⟨by simp, by (repeat (first | with_reducible exact Below.refl _ _ | with_reducible assumption | with_reducible refine Below.drew ?_ | (with_reducible refine Below.setCell ?_ ?_ _; rotate_left; (first | omega | (simp <;> omega))) | (with_reducible refine Below.alloc ?_ ?_ _; rotate_left; (first | omega | (simp <;> omega))) | exact Below.refl _ _ | assumption))⟩
    | false =>
      go_wp2_with fail
      refine Calls.mono (C3.out _) ?_
      rintro e w3 ⟨rfl, hb_w3⟩
      have hz_w3 := hb_w3.size
      try simp at hz_w3
      obtain ⟨c3__0, f3__0⟩ := bk hb_w3 (w.heap.size) (by first | omega | (simp <;> omega))
      have c3__0_0 := c3__0 0; conv at c3__0_0 => rhs; simp [go_sem, *]
      have f3__0_0 := f3__0 0; conv at f3__0_0 => rhs; simp [go_sem, *]
      have c3__0_1 := c3__0 1; conv at c3__0_1 => rhs; simp [go_sem, *]
      have f3__0_1 := f3__0 1; conv at f3__0_1 => rhs; simp [go_sem, *]
      have c3__0_2 := c3__0 2; conv at c3__0_2 => rhs; simp [go_sem, *]
      have f3__0_2 := f3__0 2; conv at f3__0_2 => rhs; simp [go_sem, *]
      have c3__0_3 := c3__0 3; conv at c3__0_3 => rhs; simp [go_sem, *]
      have f3__0_3 := f3__0 3; conv at f3__0_3 => rhs; simp [go_sem, *]
      have c3__0_4 := c3__0 4; conv at c3__0_4 => rhs; simp [go_sem, *]
      have f3__0_4 := f3__0 4; conv at f3__0_4 => rhs; simp [go_sem, *]
      have c3__0_5 := c3__0 5; conv at c3__0_5 => rhs; simp [go_sem, *]
      have f3__0_5 := f3__0 5; conv at f3__0_5 => rhs; simp [go_sem, *]
      have HH_w3 := Lib.hid hb_w3
      have hB_w3 : Below w.heap.size w w3 := Below.trans (by (repeat (first | with_reducible exact Below.refl _ _ | with_reducible assumption | with_reducible refine Below.drew ?_ | (with_reducible refine Below.setCell ?_ ?_ _; rotate_left; (first | omega | (simp <;> omega))) | (with_reducible refine Below.alloc ?_ ?_ _; rotate_left; (first | omega | (simp <;> omega))) | exact Below.refl _ _ | assumption))) (hb_w3.mono (by first | omega | (simp <;> omega)))
      clear hb_w3 c3__0 f3__0
      try clear c2__0_0 f2__0_0 c2__0_1 f2__0_1 c2__0_2 f2__0_2 c2__0_3 f2__0_3 c2__0_4 f2__0_4 c2__0_5 f2__0_5 far_w2_w_0 hB_w2
      have far_w3_w_0 := far (show w.heap.size < w3.heap.size by omega)
      cases b3 with
      | true =>
        go_wp2
        go_ret
        exact ⟨by simp, by (repeat (first | with_reducible exact Below.refl _ _ | with_reducible assumption | with_reducible refine Below.drew ?_ | (with_reducible refine Below.setCell ?_ ?_ _; rotate_left; (first | omega | (simp <;> omega))) | (with_reducible refine Below.alloc ?_ ?_ _; rotate_left; (first | omega | (simp <;> omega))) | exact Below.refl _ _ | assumption))⟩
      | false =>
        by_cases hq : q = false ∧ y.isEmpty = false
        · obtain ⟨rfl, hye⟩ := hq
          have hye2 : (y == []) = false := by cases y <;> simp_all
          go_wp2
          go_ret
          exact ⟨ret_bool (by simp [hye]), by (repeat (first | with_reducible exact Below.refl _ _ | with_reducible assumption | with_reducible refine Below.drew ?_ | (with_reducible refine Below.setCell ?_ ?_ _; rotate_left; (first | omega | (simp <;> omega))) | (with_reducible refine Below.alloc ?_ ?_ _; rotate_left; (first | omega | (simp <;> omega))) | exact Below.refl _ _ | assumption))⟩
        · have hqy : q = true ∨ (q = false ∧ y = []) := by cases q <;> cases y <;> simp_all
          clear hq
          rcases hqy with rfl | ⟨rfl, rfl⟩
          all_goals
            by_cases hn0 : n < 0
            · go_wp2
              go_ret
              exact ⟨ret_bool (by simp <;> omega), by (repeat (first | with_reducible exact Below.refl _ _ | with_reducible assumption | with_reducible refine Below.drew ?_ | (with_reducible refine Below.setCell ?_ ?_ _; rotate_left; (first | omega | (simp <;> omega))) | (with_reducible refine Below.alloc ?_ ?_ _; rotate_left; (first | omega | (simp <;> omega))) | exact Below.refl _ _ | assumption))⟩
            · by_cases hn1 : 65535 < n
              · go_wp2
                go_ret
                exact ⟨ret_bool (by simp <;> omega), by (repeat (first | with_reducible exact Below.refl _ _ | with_reducible assumption | with_reducible refine Below.drew ?_ | (with_reducible refine Below.setCell ?_ ?_ _; rotate_left; (first | omega | (simp <;> omega))) | (with_reducible refine Below.alloc ?_ ?_ _; rotate_left; (first | omega | (simp <;> omega))) | exact Below.refl _ _ | assumption))⟩
              · have hwl := HWL.out (by omega)
                go_wp2_with fail
                refine Calls.mono (C4.out _ (by (repeat (first | with_reducible exact Below.refl _ _ | with_reducible assumption | with_reducible refine Below.drew ?_ | (with_reducible refine Below.setCell ?_ ?_ _; rotate_left; (first | omega | (simp <;> omega))) | (with_reducible refine Below.alloc ?_ ?_ _; rotate_left; (first | omega | (simp <;> omega))) | exact Below.refl _ _ | assumption))) (by omega) (by omega)) ?_
                rintro e w4 ⟨rfl, hb_w4⟩
                have hz_w4 := hb_w4.size
                try simp at hz_w4
                obtain ⟨c4__0, f4__0⟩ := bk hb_w4 (w.heap.size) (by first | omega | (simp <;> omega))
                have c4__0_0 := c4__0 0; conv at c4__0_0 => rhs; simp [go_sem, *]
                have f4__0_0 := f4__0 0; conv at f4__0_0 => rhs; simp [go_sem, *]
                have c4__0_1 := c4__0 1; conv at c4__0_1 => rhs; simp [go_sem, *]
                have f4__0_1 := f4__0 1; conv at f4__0_1 => rhs; simp [go_sem, *]
                have c4__0_2 := c4__0 2; conv at c4__0_2 => rhs; simp [go_sem, *]
                have f4__0_2 := f4__0 2; conv at f4__0_2 => rhs; simp [go_sem, *]
                have c4__0_3 := c4__0 3; conv at c4__0_3 => rhs; simp [go_sem, *]
                have f4__0_3 := f4__0 3; conv at f4__0_3 => rhs; simp [go_sem, *]
                have c4__0_4 := c4__0 4; conv at c4__0_4 => rhs; simp [go_sem, *]
                have f4__0_4 := f4__0 4; conv at f4__0_4 => rhs; simp [go_sem, *]
                have c4__0_5 := c4__0 5; conv at c4__0_5 => rhs; simp [go_sem, *]
                have f4__0_5 := f4__0 5; conv at f4__0_5 => rhs; simp [go_sem, *]
                have HH_w4 := Lib.hid hb_w4
                have hB_w4 : Below w.heap.size w w4 := Below.trans (by (repeat (first | with_reducible exact Below.refl _ _ | with_reducible assumption | with_reducible refine Below.drew ?_ | (with_reducible refine Below.setCell ?_ ?_ _; rotate_left; (first | omega | (simp <;> omega))) | (with_reducible refine Below.alloc ?_ ?_ _; rotate_left; (first | omega | (simp <;> omega))) | exact Below.refl _ _ | assumption))) (hb_w4.mono (by first | omega | (simp <;> omega)))
                clear hb_w4 c4__0 f4__0
                try clear c3__0_0 f3__0_0 c3__0_1 f3__0_1 c3__0_2 f3__0_2 c3__0_3 f3__0_3 c3__0_4 f3__0_4 c3__0_5 f3__0_5 far_w3_w_0 hB_w3
                have far_w4_w_0 := far (show w.heap.size < w4.heap.size by omega)
                by_cases hle : 500 < wl.length
                · go_wp2
                  go_ret
                  exact ⟨ret_bool (by simp <;> omega), by (repeat (first | with_reducible exact Below.refl _ _ | with_reducible assumption | with_reducible refine Below.drew ?_ | (with_reducible refine Below.setCell ?_ ?_ _; rotate_left; (first | omega | (simp <;> omega))) | (with_reducible refine Below.alloc ?_ ?_ _; rotate_left; (first | omega | (simp <;> omega))) | exact Below.refl _ _ | assumption))⟩
                · have HR := Lib.hid (show (decide (0 ≤ n) && decide (n ≤ 65535) && decide (wl.length ≤ 500)) = true by simp; omega)
                  cases a with
                  | true =>
                    have HTL := Lib.hid (show tl = (b5 && b6) from HT.out.symm)
                    go_wp2_with fail
                    refine Calls.mono (C5.out _) ?_
                    rintro e w5 ⟨rfl, hb_w5⟩
                    have hz_w5 := hb_w5.size
                    try simp at hz_w5
                    obtain ⟨c5__0, f5__0⟩ := bk hb_w5 (w.heap.size) (by first | omega | (simp <;> omega))
                    have c5__0_0 := c5__0 0; conv at c5__0_0 => rhs; simp [go_sem, *]
                    have f5__0_0 := f5__0 0; conv at f5__0_0 => rhs; simp [go_sem, *]
                    have c5__0_1 := c5__0 1; conv at c5__0_1 => rhs; simp [go_sem, *]
                    have f5__0_1 := f5__0 1; conv at f5__0_1 => rhs; simp [go_sem, *]
                    have c5__0_2 := c5__0 2; conv at c5__0_2 => rhs; simp [go_sem, *]
                    have f5__0_2 := f5__0 2; conv at f5__0_2 => rhs; simp [go_sem, *]
                    have c5__0_3 := c5__0 3; conv at c5__0_3 => rhs; simp [go_sem, *]
                    have f5__0_3 := f5__0 3; conv at f5__0_3 => rhs; simp [go_sem, *]
                    have c5__0_4 := c5__0 4; conv at c5__0_4 => rhs; simp [go_sem, *]
                    have f5__0_4 := f5__0 4; conv at f5__0_4 => rhs; simp [go_sem, *]
                    have c5__0_5 := c5__0 5; conv at c5__0_5 => rhs; simp [go_sem, *]
                    have f5__0_5 := f5__0 5; conv at f5__0_5 => rhs; simp [go_sem, *]
                    have HH_w5 := Lib.hid hb_w5
                    have hB_w5 : Below w.heap.size w w5 := Below.trans (by (repeat (first | with_reducible exact Below.refl _ _ | with_reducible assumption | with_reducible refine Below.drew ?_ | (with_reducible refine Below.setCell ?_ ?_ _; rotate_left; (first | omega | (simp <;> omega))) | (with_reducible refine Below.alloc ?_ ?_ _; rotate_left; (first | omega | (simp <;> omega))) | exact Below.refl _ _ | assumption))) (hb_w5.mono (by first | omega | (simp <;> omega)))
                    clear hb_w5 c5__0 f5__0
                    try clear c4__0_0 f4__0_0 c4__0_1 f4__0_1 c4__0_2 f4__0_2 c4__0_3 f4__0_3 c4__0_4 f4__0_4 c4__0_5 f4__0_5 far_w4_w_0 hB_w4
                    have far_w5_w_0 := far (show w.heap.size < w5.heap.size by omega)
                    cases b5 with
                    | false =>
                      go_wp2
                      go_ret
                      exact ⟨ret_bool (by have := HR.out; rw [HTL.out]; simp_all), by (repeat (first | with_reducible exact Below.refl _ _ | with_reducible assumption | with_reducible refine Below.drew ?_ | (with_reducible refine Below.setCell ?_ ?_ _; rotate_left; (first | omega | (simp <;> omega))) | (with_reducible refine Below.alloc ?_ ?_ _; rotate_left; (first | omega | (simp <;> omega))) | exact Below.refl _ _ | assumption))⟩
                    | true =>
                      go_wp2_with fail
                      refine Calls.mono (C6.out _) ?_
                      rintro e w6 ⟨rfl, hb_w6⟩
                      have hz_w6 := hb_w6.size
                      try simp at hz_w6
                      obtain ⟨c6__0, f6__0⟩ := bk hb_w6 (w.heap.size) (by first | omega | (simp <;> omega))
                      have c6__0_0 := c6__0 0; conv at c6__0_0 => rhs; simp [go_sem, *]
                      have f6__0_0 := f6__0 0; conv at f6__0_0 => rhs; simp [go_sem, *]
                      have c6__0_1 := c6__0 1; conv at c6__0_1 => rhs; simp [go_sem, *]
                      have f6__0_1 := f6__0 1; conv at f6__0_1 => rhs; simp [go_sem, *]
                      have c6__0_2 := c6__0 2; conv at c6__0_2 => rhs; simp [go_sem, *]
                      have f6__0_2 := f6__0 2; conv at f6__0_2 => rhs; simp [go_sem, *]
                      have c6__0_3 := c6__0 3; conv at c6__0_3 => rhs; simp [go_sem, *]
                      have f6__0_3 := f6__0 3; conv at f6__0_3 => rhs; simp [go_sem, *]
                      have c6__0_4 := c6__0 4; conv at c6__0_4 => rhs; simp [go_sem, *]
                      have f6__0_4 := f6__0 4; conv at f6__0_4 => rhs; simp [go_sem, *]
                      have c6__0_5 := c6__0 5; conv at c6__0_5 => rhs; simp [go_sem, *]
                      have f6__0_5 := f6__0 5; conv at f6__0_5 => rhs; simp [go_sem, *]
                      have HH_w6 := Lib.hid hb_w6
                      have hB_w6 : Below w.heap.size w w6 := Below.trans (by (repeat (first | with_reducible exact Below.refl _ _ | with_reducible assumption | with_reducible refine Below.drew ?_ | (with_reducible refine Below.setCell ?_ ?_ _; rotate_left; (first | omega | (simp <;> omega))) | (with_reducible refine Below.alloc ?_ ?_ _; rotate_left; (first | omega | (simp <;> omega))) | exact Below.refl _ _ | assumption))) (hb_w6.mono (by first | omega | (simp <;> omega)))
                      clear hb_w6 c6__0 f6__0
                      try clear c5__0_0 f5__0_0 c5__0_1 f5__0_1 c5__0_2 f5__0_2 c5__0_3 f5__0_3 c5__0_4 f5__0_4 c5__0_5 f5__0_5 far_w5_w_0 hB_w5
                      have far_w6_w_0 := far (show w.heap.size < w6.heap.size by omega)
                      go_wp2
                      go_ret
                      exact ⟨ret_bool (by have := HR.out; rw [HTL.out]; simp_all), by (repeat (first | with_reducible exact Below.refl _ _ | with_reducible assumption | with_reducible refine Below.drew ?_ | (with_reducible refine Below.setCell ?_ ?_ _; rotate_left; (first | omega | (simp <;> omega))) | (with_reducible refine Below.alloc ?_ ?_ _; rotate_left; (first | omega | (simp <;> omega))) | exact Below.refl _ _ | assumption))⟩
                  | false =>
                    have HTL := Lib.hid (show tl = (h.isEmpty && decide (n = 0) && !b8 && !b9) from HT.out.symm)
                    go_wp2_with fail
                    refine Calls.mono (C7.out _) ?_
                    rintro e w5 ⟨rfl, hb_w5⟩
                    have hz_w5 := hb_w5.size
                    try simp at hz_w5
                    obtain ⟨c5__0, f5__0⟩ := bk hb_w5 (w.heap.size) (by first | omega | (simp <;> omega))
                    have c5__0_0 := c5__0 0; conv at c5__0_0 => rhs; simp [go_sem, *]
                    have f5__0_0 := f5__0 0; conv at f5__0_0 => rhs; simp [go_sem, *]
                    have c5__0_1 := c5__0 1; conv at c5__0_1 => rhs; simp [go_sem, *]
                    have f5__0_1 := f5__0 1; conv at f5__0_1 => rhs; simp [go_sem, *]
                    have c5__0_2 := c5__0 2; conv at c5__0_2 => rhs; simp [go_sem, *]
                    have f5__0_2 := f5__0 2; conv at f5__0_2 => rhs; simp [go_sem, *]
                    have c5__0_3 := c5__0 3; conv at c5__0_3 => rhs; simp [go_sem, *]
                    have f5__0_3 := f5__0 3; conv at f5__0_3 => rhs; simp [go_sem, *]
                    have c5__0_4 := c5__0 4; conv at c5__0_4 => rhs; simp [go_sem, *]
                    have f5__0_4 := f5__0 4; conv at f5__0_4 => rhs; simp [go_sem, *]
                    have c5__0_5 := c5__0 5; conv at c5__0_5 => rhs; simp [go_sem, *]
                    have f5__0_5 := f5__0 5; conv at f5__0_5 => rhs; simp [go_sem, *]
                    have HH_w5 := Lib.hid hb_w5
                    have hB_w5 : Below w.heap.size w w5 := Below.trans (by (repeat (first | with_reducible exact Below.refl _ _ | with_reducible assumption | with_reducible refine Below.drew ?_ | (with_reducible refine Below.setCell ?_ ?_ _; rotate_left; (first | omega | (simp <;> omega))) | (with_reducible refine Below.alloc ?_ ?_ _; rotate_left; (first | omega | (simp <;> omega))) | exact Below.refl _ _ | assumption))) (hb_w5.mono (by first | omega | (simp <;> omega)))
                    clear hb_w5 c5__0 f5__0
                    try clear c6__0_0 f6__0_0 c6__0_1 f6__0_1 c6__0_2 f6__0_2 c6__0_3 f6__0_3 c6__0_4 f6__0_4 c6__0_5 f6__0_5 far_w6_w_0 hB_w6
                    have far_w5_w_0 := far (show w.heap.size < w5.heap.size by omega)
                    cases h with
                    | cons hx ht =>
                      go_wp2
                      go_ret
                      exact ⟨ret_bool (by rw [HTL.out]; simp), by (repeat (first | with_reducible exact Below.refl _ _ | with_reducible assumption | with_reducible refine Below.drew ?_ | (with_reducible refine Below.setCell ?_ ?_ _; rotate_left; (first | omega | (simp <;> omega))) | (with_reducible refine Below.alloc ?_ ?_ _; rotate_left; (first | omega | (simp <;> omega))) | exact Below.refl _ _ | assumption))⟩
                    | nil =>
                      by_cases hz : n = 0
                      · subst hz
                        go_wp2_with fail
                        refine Calls.mono (C8.out _) ?_
                        rintro e w6 ⟨rfl, hb_w6⟩
                        have hz_w6 := hb_w6.size
                        try simp at hz_w6
                        obtain ⟨c6__0, f6__0⟩ := bk hb_w6 (w.heap.size) (by first | omega | (simp <;> omega))
                        have c6__0_0 := c6__0 0; conv at c6__0_0 => rhs; simp [go_sem, *]
                        have f6__0_0 := f6__0 0; conv at f6__0_0 => rhs; simp [go_sem, *]
                        have c6__0_1 := c6__0 1; conv at c6__0_1 => rhs; simp [go_sem, *]
                        have f6__0_1 := f6__0 1; conv at f6__0_1 => rhs; simp [go_sem, *]
                        have c6__0_2 := c6__0 2; conv at c6__0_2 => rhs; simp [go_sem, *]
                        have f6__0_2 := f6__0 2; conv at f6__0_2 => rhs; simp [go_sem, *]
                        have c6__0_3 := c6__0 3; conv at c6__0_3 => rhs; simp [go_sem, *]
                        have f6__0_3 := f6__0 3; conv at f6__0_3 => rhs; simp [go_sem, *]
                        have c6__0_4 := c6__0 4; conv at c6__0_4 => rhs; simp [go_sem, *]
                        have f6__0_4 := f6__0 4; conv at f6__0_4 => rhs; simp [go_sem, *]
                        have c6__0_5 := c6__0 5; conv at c6__0_5 => rhs; simp [go_sem, *]
                        have f6__0_5 := f6__0 5; conv at f6__0_5 => rhs; simp [go_sem, *]
                        have HH_w6 := Lib.hid hb_w6
                        have hB_w6 : Below w.heap.size w w6 := Below.trans (by (repeat (first | with_reducible exact Below.refl _ _ | with_reducible assumption | with_reducible refine Below.drew ?_ | (with_reducible refine Below.setCell ?_ ?_ _; rotate_left; (first | omega | (simp <;> omega))) | (with_reducible refine Below.alloc ?_ ?_ _; rotate_left; (first | omega | (simp <;> omega))) | exact Below.refl _ _ | assumption))) (hb_w6.mono (by first | omega | (simp <;> omega)))
                        clear hb_w6 c6__0 f6__0
                        try clear c5__0_0 f5__0_0 c5__0_1 f5__0_1 c5__0_2 f5__0_2 c5__0_3 f5__0_3 c5__0_4 f5__0_4 c5__0_5 f5__0_5 far_w5_w_0 hB_w5
                        have far_w6_w_0 := far (show w.heap.size < w6.heap.size by omega)
                        cases b8 with
                        | true =>
                          go_wp2
                          go_ret
                          exact ⟨ret_bool (by rw [HTL.out]; simp), by (repeat (first | with_reducible exact Below.refl _ _ | with_reducible assumption | with_reducible refine Below.drew ?_ | (with_reducible refine Below.setCell ?_ ?_ _; rotate_left; (first | omega | (simp <;> omega))) | (with_reducible refine Below.alloc ?_ ?_ _; rotate_left; (first | omega | (simp <;> omega))) | exact Below.refl _ _ | assumption))⟩
                        | false =>
                          go_wp2_with fail
                          refine Calls.mono (C9.out _) ?_
                          rintro e w7 ⟨rfl, hb_w7⟩
                          have hz_w7 := hb_w7.size
                          try simp at hz_w7
                          obtain ⟨c7__0, f7__0⟩ := bk hb_w7 (w.heap.size) (by first | omega | (simp <;> omega))
                          have c7__0_0 := c7__0 0; conv at c7__0_0 => rhs; simp [go_sem, *]
                          have f7__0_0 := f7__0 0; conv at f7__0_0 => rhs; simp [go_sem, *]
                          have c7__0_1 := c7__0 1; conv at c7__0_1 => rhs; simp [go_sem, *]
                          have f7__0_1 := f7__0 1; conv at f7__0_1 => rhs; simp [go_sem, *]
                          have c7__0_2 := c7__0 2; conv at c7__0_2 => rhs; simp [go_sem, *]
                          have f7__0_2 := f7__0 2; conv at f7__0_2 => rhs; simp [go_sem, *]
                          have c7__0_3 := c7__0 3; conv at c7__0_3 => rhs; simp [go_sem, *]
                          have f7__0_3 := f7__0 3; conv at f7__0_3 => rhs; simp [go_sem, *]
                          have c7__0_4 := c7__0 4; conv at c7__0_4 => rhs; simp [go_sem, *]
                          have f7__0_4 := f7__0 4; conv at f7__0_4 => rhs; simp [go_sem, *]
                          have c7__0_5 := c7__0 5; conv at c7__0_5 => rhs; simp [go_sem, *]
                          have f7__0_5 := f7__0 5; conv at f7__0_5 => rhs; simp [go_sem, *]
                          have HH_w7 := Lib.hid hb_w7
                          have hB_w7 : Below w.heap.size w w7 := Below.trans (by (repeat (first | with_reducible exact Below.refl _ _ | with_reducible assumption | with_reducible refine Below.drew ?_ | (with_reducible refine Below.setCell ?_ ?_ _; rotate_left; (first | omega | (simp <;> omega))) | (with_reducible refine Below.alloc ?_ ?_ _; rotate_left; (first | omega | (simp <;> omega))) | exact Below.refl _ _ | assumption))) (hb_w7.mono (by first | omega | (simp <;> omega)))
                          clear hb_w7 c7__0 f7__0
                          try clear c6__0_0 f6__0_0 c6__0_1 f6__0_1 c6__0_2 f6__0_2 c6__0_3 f6__0_3 c6__0_4 f6__0_4 c6__0_5 f6__0_5 far_w6_w_0 hB_w6
                          have far_w7_w_0 := far (show w.heap.size < w7.heap.size by omega)
                          go_wp2
                          go_ret
                          exact ⟨ret_bool (by have := HR.out; rw [HTL.out]; simp_all), by (repeat (first | with_reducible exact Below.refl _ _ | with_reducible assumption | with_reducible refine Below.drew ?_ | (with_reducible refine Below.setCell ?_ ?_ _; rotate_left; (first | omega | (simp <;> omega))) | (with_reducible refine Below.alloc ?_ ?_ _; rotate_left; (first | omega | (simp <;> omega))) | exact Below.refl _ _ | assumption))⟩
                      · have hz2 : (n == 0) = false := by simp; omega
                        go_wp2
                        go_ret
                        exact ⟨ret_bool (by rw [HTL.out]; simp [hz]), by (repeat (first | with_reducible exact Below.refl _ _ | with_reducible assumption | with_reducible refine Below.drew ?_ | (with_reducible refine Below.setCell ?_ ?_ _; rotate_left; (first | omega | (simp <;> omega))) | (with_reducible refine Below.alloc ?_ ?_ _; rotate_left; (first | omega | (simp <;> omega))) | exact Below.refl _ _ | assumption))⟩
end Go.Proofs.YtgjemgilanhdiaaGreatDoor
