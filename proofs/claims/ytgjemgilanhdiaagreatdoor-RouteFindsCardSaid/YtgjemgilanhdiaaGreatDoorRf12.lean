/- uri.Right and the document's Right: the document's walk. A path's steps that stay or go back, taken out: in plain words. -/
import Derived.Test.YtgjemgilanhdiaaGreatDoorRf7
import Derived.Test.YtgjemgilanhdiaaGreatDoorRf2
namespace Go.Proofs.YtgjemgilanhdiaaGreatDoor
open Go.RowKit Go.Sort Go.Shelf
set_option linter.unusedVariables false

theorem idx_take (l : List UInt8) (c : UInt8) (s : Nat) : 0 ≤ Lib.indexByte (l.take s) c ↔ 0 ≤ Lib.indexByte l c ∧ Lib.indexByte l c < s := by
  have g1 := Lib.indexByte_ge l c
  have g2 := Lib.indexByte_ge (l.take s) c
  constructor
  · intro h
    obtain ⟨i, hi⟩ : ∃ i : Nat, Lib.indexByte (l.take s) c = i := ⟨(Lib.indexByte (l.take s) c).toNat, by omega⟩
    obtain ⟨h1, _⟩ := Lib.indexByte_some hi
    obtain ⟨hlt, _⟩ := List.getElem?_eq_some_iff.1 h1
    rw [List.length_take] at hlt
    rw [List.getElem?_take_of_lt (by omega)] at h1
    have hne : Lib.indexByte l c ≠ -1 := fun e => Lib.indexByte_none e i h1
    obtain ⟨j, hj⟩ : ∃ j : Nat, Lib.indexByte l c = j := ⟨(Lib.indexByte l c).toNat, by omega⟩
    obtain ⟨_, h2⟩ := Lib.indexByte_some hj
    refine ⟨by omega, ?_⟩
    rw [hj]
    have : ¬ i < j := fun h => h2 i h h1
    omega
  · rintro ⟨h0, hlt⟩
    obtain ⟨j, hj⟩ : ∃ j : Nat, Lib.indexByte l c = j := ⟨(Lib.indexByte l c).toNat, by omega⟩
    obtain ⟨h1, _⟩ := Lib.indexByte_some hj
    have hne : Lib.indexByte (l.take s) c ≠ -1 := fun e => Lib.indexByte_none e j (by rw [List.getElem?_take_of_lt (by omega)]; exact h1)
    omega

theorem colon_eq (p : List UInt8) : decide (0 ≤ Lib.indexByte (cut1 p 47).1 58) = decide (0 ≤ Lib.indexByte p 58 ∧ (Lib.indexByte p 47 < 0 ∨ Lib.indexByte p 58 < Lib.indexByte p 47)) := by
  unfold cut1
  by_cases h : 0 ≤ Lib.indexByte p 47
  · rw [if_pos h]
    simp only
    rw [decide_eq_decide, idx_take]
    omega
  · rw [if_neg h]
    simp only
    rw [decide_eq_decide]
    omega

def rightR (a : Bool) (h : List UInt8) (n : Int) (p : List UInt8) (q : Bool) (y : List UInt8) : Bool :=
  !(p.any badU) && !(y.any badU) && !(decide (0 ≤ Lib.indexByte p 63)) && (q || y.isEmpty) && decide (0 ≤ n) && decide (n ≤ 65535) && decide ((writeL a h n.toNat p q y).length ≤ 500) &&
    (if a then hostL h && Lib.hasPrefix p [47] else h.isEmpty && decide (n = 0) && !Lib.hasPrefix p [47, 47] && !decide (0 ≤ Lib.indexByte p 58 ∧ (Lib.indexByte p 47 < 0 ∨ Lib.indexByte p 58 < Lib.indexByte p 47)))
theorem right_eq (a : Bool) (h : List UInt8) (n : Int) (p : List UInt8) (q : Bool) (y : List UInt8) : rightU a h n p q y = rightR a h n p q y := by
  unfold rightU rightR
  rw [colon_eq]

set_option maxHeartbeats 3200000 in
set_option maxRecDepth 100000 in
theorem refUriRight (a : Bool) (h : List UInt8) (n : Int) (p : List UInt8) (q : Bool) (y : List UInt8) (hh : h.length ≤ 1000000) (hp : p.length ≤ 1000000) (hy : y.length ≤ 1000000) (w : World) (hL : Laid w) :
    Calls Tryz.prog 28 #[uv a h n p q y] w fun e w' => e = .returned (.bool (rightU a h n p q y)) ∧ Below w.heap.size w w' := by
  have C1 := Lib.hid (fun W => same_below (refBytes p (by omega) W))
  have C2 := Lib.hid (fun W => same_below (refBytes y (by omega) W))
  have C3 := Lib.hid (fun W => same_below (refFind p 63 (by omega) W))
  have C4 := Lib.hid (fun W (hb : Below w.heap.size w W) h0 hn => refWriteI a h n p q y hh h0 hn hp hy W (hL.on hb))
  have C5 := Lib.hid (fun W => same_below (refHost h (by omega) W))
  have C6 := Lib.hid (fun W => same_below (begins_S (s := p) (t := [47]) (by omega) (by decide) rfl W))
  have C7 := Lib.hid (fun W => same_below (refFind p 58 (by omega) W))
  have C8 := Lib.hid (fun W => same_below (refFind p 47 (by omega) W))
  have C9 := Lib.hid (fun W => same_below (begins_S (s := p) (t := [47, 47]) (by omega) (by decide) rfl W))
  rw [show rightU a h n p q y = rightR a h n p q y from right_eq a h n p q y]
  unfold rightR
  have HWL := Lib.hid (fun hn => writeL_len a h n.toNat p q y hn)
  obtain ⟨b1, hb1⟩ : ∃ b, p.any badU = b := ⟨_, rfl⟩
  obtain ⟨b2, hb2⟩ : ∃ b, y.any badU = b := ⟨_, rfl⟩
  obtain ⟨b3, hb3⟩ : ∃ b, Lib.indexByte p 63 = b := ⟨_, rfl⟩
  obtain ⟨wl, hwl⟩ : ∃ b, writeL a h n.toNat p q y = b := ⟨_, rfl⟩
  obtain ⟨b5, hb5⟩ : ∃ b, hostL h = b := ⟨_, rfl⟩
  obtain ⟨b6, hb6⟩ : ∃ b, Lib.hasPrefix p [47] = b := ⟨_, rfl⟩
  obtain ⟨b7, hb7⟩ : ∃ b, Lib.indexByte p 58 = b := ⟨_, rfl⟩
  obtain ⟨b8, hb8⟩ : ∃ b, Lib.indexByte p 47 = b := ⟨_, rfl⟩
  obtain ⟨b9, hb9⟩ : ∃ b, Lib.hasPrefix p [47, 47] = b := ⟨_, rfl⟩
  rw [hb1] at C1
  rw [hb2] at C2
  rw [hb3] at C3
  rw [hwl] at C4 HWL
  rw [hb5] at C5
  rw [hb6] at C6
  rw [hb7] at C7
  rw [hb8] at C8
  rw [hb9] at C9
  rw [hb1, hb2, hb3, hwl, hb5, hb6, hb7, hb8, hb9]
  obtain ⟨tl, htl⟩ : ∃ tl, (if a then b5 && b6 else h.isEmpty && decide (n = 0) && !b9 && !decide (0 ≤ b7 ∧ (b8 < 0 ∨ b7 < b8))) = tl := ⟨_, rfl⟩
  rw [htl]
  have HT := Lib.hid htl
  clear hb1 hb2 hb3 hwl hb5 hb6 hb7 hb8 hb9 hL htl
  go_enter Tryz.func28, Tryz.ntmps28
  by_cases hn0 : n < 0
  · go_wp2
    go_ret
    exact ⟨ret_bool (by simp <;> omega), by (repeat (first | with_reducible exact Below.refl _ _ | with_reducible assumption | with_reducible refine Below.drew ?_ | (with_reducible refine Below.setCell ?_ ?_ _; rotate_left; (first | omega | (simp <;> omega))) | (with_reducible refine Below.alloc ?_ ?_ _; rotate_left; (first | omega | (simp <;> omega))) | exact Below.refl _ _ | assumption))⟩
  · by_cases hn1 : 65535 < n
    · go_wp2
      go_ret
      exact ⟨ret_bool (by simp <;> omega), by (repeat (first | with_reducible exact Below.refl _ _ | with_reducible assumption | with_reducible refine Below.drew ?_ | (with_reducible refine Below.setCell ?_ ?_ _; rotate_left; (first | omega | (simp <;> omega))) | (with_reducible refine Below.alloc ?_ ?_ _; rotate_left; (first | omega | (simp <;> omega))) | exact Below.refl _ _ | assumption))⟩
    · go_wp2_with fail
      refine Calls.mono (C1.out _) ?_
      rintro e w1 ⟨rfl, hb_w1⟩
      have hz_w1 := hb_w1.size
      try simp at hz_w1
      obtain ⟨c1__0, f1__0⟩ := bk hb_w1 (w.heap.size) (by first | omega | (simp <;> omega))
      have c1__0_0 := c1__0 0; conv at c1__0_0 => rhs; simp [go_sem, *]
      have f1__0_0 := f1__0 0; conv at f1__0_0 => rhs; simp [go_sem, *]
      have c1__0_1 := c1__0 1; conv at c1__0_1 => rhs; simp [go_sem, *]
      have f1__0_1 := f1__0 1; conv at f1__0_1 => rhs; simp [go_sem, *]
      have c1__0_2 := c1__0 2; conv at c1__0_2 => rhs; simp [go_sem, *]
      have f1__0_2 := f1__0 2; conv at f1__0_2 => rhs; simp [go_sem, *]
      have c1__0_3 := c1__0 3; conv at c1__0_3 => rhs; simp [go_sem, *]
      have f1__0_3 := f1__0 3; conv at f1__0_3 => rhs; simp [go_sem, *]
      have c1__0_4 := c1__0 4; conv at c1__0_4 => rhs; simp [go_sem, *]
      have f1__0_4 := f1__0 4; conv at f1__0_4 => rhs; simp [go_sem, *]
      have c1__0_5 := c1__0 5; conv at c1__0_5 => rhs; simp [go_sem, *]
      have f1__0_5 := f1__0 5; conv at f1__0_5 => rhs; simp [go_sem, *]
      have HH_w1 := Lib.hid hb_w1
      have hB_w1 : Below w.heap.size w w1 := Below.trans (by (repeat (first | with_reducible exact Below.refl _ _ | with_reducible assumption | with_reducible refine Below.drew ?_ | (with_reducible refine Below.setCell ?_ ?_ _; rotate_left; (first | omega | (simp <;> omega))) | (with_reducible refine Below.alloc ?_ ?_ _; rotate_left; (first | omega | (simp <;> omega))) | exact Below.refl _ _ | assumption))) (hb_w1.mono (by first | omega | (simp <;> omega)))
      clear hb_w1 c1__0 f1__0
      have far_w1_w_0 := far (show w.heap.size < w1.heap.size by omega)
      cases b1 with
      | true =>
        go_wp2
        go_ret
        exact ⟨ret_bool (by simp), by (repeat (first | with_reducible exact Below.refl _ _ | with_reducible assumption | with_reducible refine Below.drew ?_ | (with_reducible refine Below.setCell ?_ ?_ _; rotate_left; (first | omega | (simp <;> omega))) | (with_reducible refine Below.alloc ?_ ?_ _; rotate_left; (first | omega | (simp <;> omega))) | exact Below.refl _ _ | assumption))⟩
      | false =>
        go_wp2_with fail
        refine Calls.mono (C2.out _) ?_
        rintro e w2 ⟨rfl, hb_w2⟩
        have hz_w2 := hb_w2.size
        try simp at hz_w2
        obtain ⟨c2__0, f2__0⟩ := bk hb_w2 (w.heap.size) (by first | omega | (simp <;> omega))
        have c2__0_0 := c2__0 0; conv at c2__0_0 => rhs; simp [go_sem, *]
        have f2__0_0 := f2__0 0; conv at f2__0_0 => rhs; simp [go_sem, *]
        have c2__0_1 := c2__0 1; conv at c2__0_1 => rhs; simp [go_sem, *]
        have f2__0_1 := f2__0 1; conv at f2__0_1 => rhs; simp [go_sem, *]
        have c2__0_2 := c2__0 2; conv at c2__0_2 => rhs; simp [go_sem, *]
        have f2__0_2 := f2__0 2; conv at f2__0_2 => rhs; simp [go_sem, *]
        have c2__0_3 := c2__0 3; conv at c2__0_3 => rhs; simp [go_sem, *]
        have f2__0_3 := f2__0 3; conv at f2__0_3 => rhs; simp [go_sem, *]
        have c2__0_4 := c2__0 4; conv at c2__0_4 => rhs; simp [go_sem, *]
        have f2__0_4 := f2__0 4; conv at f2__0_4 => rhs; simp [go_sem, *]
        have c2__0_5 := c2__0 5; conv at c2__0_5 => rhs; simp [go_sem, *]
        have f2__0_5 := f2__0 5; conv at f2__0_5 => rhs; simp [go_sem, *]
        have HH_w2 := Lib.hid hb_w2
        have hB_w2 : Below w.heap.size w w2 := Below.trans (by (repeat (first | with_reducible exact Below.refl _ _ | with_reducible assumption | with_reducible refine Below.drew ?_ | (with_reducible refine Below.setCell ?_ ?_ _; rotate_left; (first | omega | (simp <;> omega))) | (with_reducible refine Below.alloc ?_ ?_ _; rotate_left; (first | omega | (simp <;> omega))) | exact Below.refl _ _ | assumption))) (hb_w2.mono (by first | omega | (simp <;> omega)))
        clear hb_w2 c2__0 f2__0
        try clear c1__0_0 f1__0_0 c1__0_1 f1__0_1 c1__0_2 f1__0_2 c1__0_3 f1__0_3 c1__0_4 f1__0_4 c1__0_5 f1__0_5 far_w1_w_0 hB_w1
        have far_w2_w_0 := far (show w.heap.size < w2.heap.size by omega)
        cases b2 with
        | true =>
          go_wp2
          go_ret
          exact ⟨ret_bool (by simp), by (repeat (first | with_reducible exact Below.refl _ _ | with_reducible assumption | with_reducible refine Below.drew ?_ | (with_reducible refine Below.setCell ?_ ?_ _; rotate_left; (first | omega | (simp <;> omega))) | (with_reducible refine Below.alloc ?_ ?_ _; rotate_left; (first | omega | (simp <;> omega))) | exact Below.refl _ _ | assumption))⟩
        | false =>
          go_wp2_with fail
          refine Calls.mono (C3.out _) ?_
          rintro e w3 ⟨rfl, hb_w3⟩
          have hz_w3 := hb_w3.size
          try simp at hz_w3
          obtain ⟨c3__0, f3__0⟩ := bk hb_w3 (w.heap.size) (by first | omega | (simp <;> omega))
          have c3__0_0 := c3__0 0; conv at c3__0_0 => rhs; simp [go_sem, *]
          have f3__0_0 := f3__0 0; conv at f3__0_0 => rhs; simp [go_sem, *]
          have c3__0_1 := c3__0 1; conv at c3__0_1 => rhs; simp [go_sem, *]
          have f3__0_1 := f3__0 1; conv at f3__0_1 => rhs; simp [go_sem, *]
          have c3__0_2 := c3__0 2; conv at c3__0_2 => rhs; simp [go_sem, *]
          have f3__0_2 := f3__0 2; conv at f3__0_2 => rhs; simp [go_sem, *]
          have c3__0_3 := c3__0 3; conv at c3__0_3 => rhs; simp [go_sem, *]
          have f3__0_3 := f3__0 3; conv at f3__0_3 => rhs; simp [go_sem, *]
          have c3__0_4 := c3__0 4; conv at c3__0_4 => rhs; simp [go_sem, *]
          have f3__0_4 := f3__0 4; conv at f3__0_4 => rhs; simp [go_sem, *]
          have c3__0_5 := c3__0 5; conv at c3__0_5 => rhs; simp [go_sem, *]
          have f3__0_5 := f3__0 5; conv at f3__0_5 => rhs; simp [go_sem, *]
          have HH_w3 := Lib.hid hb_w3
          have hB_w3 : Below w.heap.size w w3 := Below.trans (by (repeat (first | with_reducible exact Below.refl _ _ | with_reducible assumption | with_reducible refine Below.drew ?_ | (with_reducible refine Below.setCell ?_ ?_ _; rotate_left; (first | omega | (simp <;> omega))) | (with_reducible refine Below.alloc ?_ ?_ _; rotate_left; (first | omega | (simp <;> omega))) | exact Below.refl _ _ | assumption))) (hb_w3.mono (by first | omega | (simp <;> omega)))
          clear hb_w3 c3__0 f3__0
          try clear c2__0_0 f2__0_0 c2__0_1 f2__0_1 c2__0_2 f2__0_2 c2__0_3 f2__0_3 c2__0_4 f2__0_4 c2__0_5 f2__0_5 far_w2_w_0 hB_w2
          have far_w3_w_0 := far (show w.heap.size < w3.heap.size by omega)
          by_cases h3 : 0 ≤ b3
          · go_wp2
            go_ret
            exact ⟨ret_bool (by simp [h3]), by (repeat (first | with_reducible exact Below.refl _ _ | with_reducible assumption | with_reducible refine Below.drew ?_ | (with_reducible refine Below.setCell ?_ ?_ _; rotate_left; (first | omega | (simp <;> omega))) | (with_reducible refine Below.alloc ?_ ?_ _; rotate_left; (first | omega | (simp <;> omega))) | exact Below.refl _ _ | assumption))⟩
          · by_cases hq : q = false ∧ y.isEmpty = false
            · obtain ⟨rfl, hye⟩ := hq
              have hye2 : (y == []) = false := by cases y <;> simp_all
              go_wp2
              go_ret
              exact ⟨ret_bool (by simp [hye]), by (repeat (first | with_reducible exact Below.refl _ _ | with_reducible assumption | with_reducible refine Below.drew ?_ | (with_reducible refine Below.setCell ?_ ?_ _; rotate_left; (first | omega | (simp <;> omega))) | (with_reducible refine Below.alloc ?_ ?_ _; rotate_left; (first | omega | (simp <;> omega))) | exact Below.refl _ _ | assumption))⟩
            · have hqy : q = true ∨ (q = false ∧ y = []) := by cases q <;> cases y <;> simp_all
              clear hq
              rcases hqy with rfl | ⟨rfl, rfl⟩
              all_goals
                have hwl := HWL.out (by omega)
                go_wp2_with fail
                refine Calls.mono (C4.out _ (by (repeat (first | with_reducible exact Below.refl _ _ | with_reducible assumption | with_reducible refine Below.drew ?_ | (with_reducible refine Below.setCell ?_ ?_ _; rotate_left; (first | omega | (simp <;> omega))) | (with_reducible refine Below.alloc ?_ ?_ _; rotate_left; (first | omega | (simp <;> omega))) | exact Below.refl _ _ | assumption))) (by omega) (by omega)) ?_
                rintro e w4 ⟨rfl, hb_w4⟩
                have hz_w4 := hb_w4.size
                try simp at hz_w4
                obtain ⟨c4__0, f4__0⟩ := bk hb_w4 (w.heap.size) (by first | omega | (simp <;> omega))
                have c4__0_0 := c4__0 0; conv at c4__0_0 => rhs; simp [go_sem, *]
                have f4__0_0 := f4__0 0; conv at f4__0_0 => rhs; simp [go_sem, *]
                have c4__0_1 := c4__0 1; conv at c4__0_1 => rhs; simp [go_sem, *]
                have f4__0_1 := f4__0 1; conv at f4__0_1 => rhs; simp [go_sem, *]
                have c4__0_2 := c4__0 2; conv at c4__0_2 => rhs; simp [go_sem, *]
                have f4__0_2 := f4__0 2; conv at f4__0_2 => rhs; simp [go_sem, *]
                have c4__0_3 := c4__0 3; conv at c4__0_3 => rhs; simp [go_sem, *]
                have f4__0_3 := f4__0 3; conv at f4__0_3 => rhs; simp [go_sem, *]
                have c4__0_4 := c4__0 4; conv at c4__0_4 => rhs; simp [go_sem, *]
                have f4__0_4 := f4__0 4; conv at f4__0_4 => rhs; simp [go_sem, *]
                have c4__0_5 := c4__0 5; conv at c4__0_5 => rhs; simp [go_sem, *]
                have f4__0_5 := f4__0 5; conv at f4__0_5 => rhs; simp [go_sem, *]
                have HH_w4 := Lib.hid hb_w4
                have hB_w4 : Below w.heap.size w w4 := Below.trans (by (repeat (first | with_reducible exact Below.refl _ _ | with_reducible assumption | with_reducible refine Below.drew ?_ | (with_reducible refine Below.setCell ?_ ?_ _; rotate_left; (first | omega | (simp <;> omega))) | (with_reducible refine Below.alloc ?_ ?_ _; rotate_left; (first | omega | (simp <;> omega))) | exact Below.refl _ _ | assumption))) (hb_w4.mono (by first | omega | (simp <;> omega)))
                clear hb_w4 c4__0 f4__0
                try clear c3__0_0 f3__0_0 c3__0_1 f3__0_1 c3__0_2 f3__0_2 c3__0_3 f3__0_3 c3__0_4 f3__0_4 c3__0_5 f3__0_5 far_w3_w_0 hB_w3
                have far_w4_w_0 := far (show w.heap.size < w4.heap.size by omega)
                by_cases hle : 500 < wl.length
                · go_wp2
                  go_ret
                  exact ⟨ret_bool (by simp <;> omega), by (repeat (first | with_reducible exact Below.refl _ _ | with_reducible assumption | with_reducible refine Below.drew ?_ | (with_reducible refine Below.setCell ?_ ?_ _; rotate_left; (first | omega | (simp <;> omega))) | (with_reducible refine Below.alloc ?_ ?_ _; rotate_left; (first | omega | (simp <;> omega))) | exact Below.refl _ _ | assumption))⟩
                · have HR := Lib.hid (show (!decide (0 ≤ b3) && decide (0 ≤ n) && decide (n ≤ 65535) && decide (wl.length ≤ 500)) = true by simp; omega)
                  cases a with
                  | true =>
                    have HTL := Lib.hid (show tl = (b5 && b6) from HT.out.symm)
                    go_wp2_with fail
                    refine Calls.mono (C5.out _) ?_
                    rintro e w5 ⟨rfl, hb_w5⟩
                    have hz_w5 := hb_w5.size
                    try simp at hz_w5
                    obtain ⟨c5__0, f5__0⟩ := bk hb_w5 (w.heap.size) (by first | omega | (simp <;> omega))
                    have c5__0_0 := c5__0 0; conv at c5__0_0 => rhs; simp [go_sem, *]
                    have f5__0_0 := f5__0 0; conv at f5__0_0 => rhs; simp [go_sem, *]
                    have c5__0_1 := c5__0 1; conv at c5__0_1 => rhs; simp [go_sem, *]
                    have f5__0_1 := f5__0 1; conv at f5__0_1 => rhs; simp [go_sem, *]
                    have c5__0_2 := c5__0 2; conv at c5__0_2 => rhs; simp [go_sem, *]
                    have f5__0_2 := f5__0 2; conv at f5__0_2 => rhs; simp [go_sem, *]
                    have c5__0_3 := c5__0 3; conv at c5__0_3 => rhs; simp [go_sem, *]
                    have f5__0_3 := f5__0 3; conv at f5__0_3 => rhs; simp [go_sem, *]
                    have c5__0_4 := c5__0 4; conv at c5__0_4 => rhs; simp [go_sem, *]
                    have f5__0_4 := f5__0 4; conv at f5__0_4 => rhs; simp [go_sem, *]
                    have c5__0_5 := c5__0 5; conv at c5__0_5 => rhs; simp [go_sem, *]
                    have f5__0_5 := f5__0 5; conv at f5__0_5 => rhs; simp [go_sem, *]
                    have HH_w5 := Lib.hid hb_w5
                    have hB_w5 : Below w.heap.size w w5 := Below.trans (by (repeat (first | with_reducible exact Below.refl _ _ | with_reducible assumption | with_reducible refine Below.drew ?_ | (with_reducible refine Below.setCell ?_ ?_ _; rotate_left; (first | omega | (simp <;> omega))) | (with_reducible refine Below.alloc ?_ ?_ _; rotate_left; (first | omega | (simp <;> omega))) | exact Below.refl _ _ | assumption))) (hb_w5.mono (by first | omega | (simp <;> omega)))
                    clear hb_w5 c5__0 f5__0
                    try clear c4__0_0 f4__0_0 c4__0_1 f4__0_1 c4__0_2 f4__0_2 c4__0_3 f4__0_3 c4__0_4 f4__0_4 c4__0_5 f4__0_5 far_w4_w_0 hB_w4
                    have far_w5_w_0 := far (show w.heap.size < w5.heap.size by omega)
                    cases b5 with
                    | false =>
                      go_wp2
                      go_ret
                      exact ⟨ret_bool (by have := HR.out; rw [HTL.out]; simp_all), by (repeat (first | with_reducible exact Below.refl _ _ | with_reducible assumption | with_reducible refine Below.drew ?_ | (with_reducible refine Below.setCell ?_ ?_ _; rotate_left; (first | omega | (simp <;> omega))) | (with_reducible refine Below.alloc ?_ ?_ _; rotate_left; (first | omega | (simp <;> omega))) | exact Below.refl _ _ | assumption))⟩
                    | true =>
                      go_wp2_with fail
                      refine Calls.mono (C6.out _) ?_
                      rintro e w6 ⟨rfl, hb_w6⟩
                      have hz_w6 := hb_w6.size
                      try simp at hz_w6
                      obtain ⟨c6__0, f6__0⟩ := bk hb_w6 (w.heap.size) (by first | omega | (simp <;> omega))
                      have c6__0_0 := c6__0 0; conv at c6__0_0 => rhs; simp [go_sem, *]
                      have f6__0_0 := f6__0 0; conv at f6__0_0 => rhs; simp [go_sem, *]
                      have c6__0_1 := c6__0 1; conv at c6__0_1 => rhs; simp [go_sem, *]
                      have f6__0_1 := f6__0 1; conv at f6__0_1 => rhs; simp [go_sem, *]
                      have c6__0_2 := c6__0 2; conv at c6__0_2 => rhs; simp [go_sem, *]
                      have f6__0_2 := f6__0 2; conv at f6__0_2 => rhs; simp [go_sem, *]
                      have c6__0_3 := c6__0 3; conv at c6__0_3 => rhs; simp [go_sem, *]
                      have f6__0_3 := f6__0 3; conv at f6__0_3 => rhs; simp [go_sem, *]
                      have c6__0_4 := c6__0 4; conv at c6__0_4 => rhs; simp [go_sem, *]
                      have f6__0_4 := f6__0 4; conv at f6__0_4 => rhs; simp [go_sem, *]
                      have c6__0_5 := c6__0 5; conv at c6__0_5 => rhs; simp [go_sem, *]
                      have f6__0_5 := f6__0 5; conv at f6__0_5 => rhs; simp [go_sem, *]
                      have HH_w6 := Lib.hid hb_w6
                      have hB_w6 : Below w.heap.size w w6 := Below.trans (by (repeat (first | with_reducible exact Below.refl _ _ | with_reducible assumption | with_reducible refine Below.drew ?_ | (with_reducible refine Below.setCell ?_ ?_ _; rotate_left; (first | omega | (simp <;> omega))) | (with_reducible refine Below.alloc ?_ ?_ _; rotate_left; (first | omega | (simp <;> omega))) | exact Below.refl _ _ | assumption))) (hb_w6.mono (by first | omega | (simp <;> omega)))
                      clear hb_w6 c6__0 f6__0
                      try clear c5__0_0 f5__0_0 c5__0_1 f5__0_1 c5__0_2 f5__0_2 c5__0_3 f5__0_3 c5__0_4 f5__0_4 c5__0_5 f5__0_5 far_w5_w_0 hB_w5
                      have far_w6_w_0 := far (show w.heap.size < w6.heap.size by omega)
                      go_wp2
                      go_ret
                      exact ⟨ret_bool (by have := HR.out; rw [HTL.out]; simp_all), by (repeat (first | with_reducible exact Below.refl _ _ | with_reducible assumption | with_reducible refine Below.drew ?_ | (with_reducible refine Below.setCell ?_ ?_ _; rotate_left; (first | omega | (simp <;> omega))) | (with_reducible refine Below.alloc ?_ ?_ _; rotate_left; (first | omega | (simp <;> omega))) | exact Below.refl _ _ | assumption))⟩
                  | false =>
                    have HTL := Lib.hid (show tl = (h.isEmpty && decide (n = 0) && !b9 && !decide (0 ≤ b7 ∧ (b8 < 0 ∨ b7 < b8))) from HT.out.symm)
                    go_wp2_with fail
                    refine Calls.mono (C7.out _) ?_
                    rintro e w5 ⟨rfl, hb_w5⟩
                    have hz_w5 := hb_w5.size
                    try simp at hz_w5
                    obtain ⟨c5__0, f5__0⟩ := bk hb_w5 (w.heap.size) (by first | omega | (simp <;> omega))
                    have c5__0_0 := c5__0 0; conv at c5__0_0 => rhs; simp [go_sem, *]
                    have f5__0_0 := f5__0 0; conv at f5__0_0 => rhs; simp [go_sem, *]
                    have c5__0_1 := c5__0 1; conv at c5__0_1 => rhs; simp [go_sem, *]
                    have f5__0_1 := f5__0 1; conv at f5__0_1 => rhs; simp [go_sem, *]
                    have c5__0_2 := c5__0 2; conv at c5__0_2 => rhs; simp [go_sem, *]
                    have f5__0_2 := f5__0 2; conv at f5__0_2 => rhs; simp [go_sem, *]
                    have c5__0_3 := c5__0 3; conv at c5__0_3 => rhs; simp [go_sem, *]
                    have f5__0_3 := f5__0 3; conv at f5__0_3 => rhs; simp [go_sem, *]
                    have c5__0_4 := c5__0 4; conv at c5__0_4 => rhs; simp [go_sem, *]
                    have f5__0_4 := f5__0 4; conv at f5__0_4 => rhs; simp [go_sem, *]
                    have c5__0_5 := c5__0 5; conv at c5__0_5 => rhs; simp [go_sem, *]
                    have f5__0_5 := f5__0 5; conv at f5__0_5 => rhs; simp [go_sem, *]
                    have HH_w5 := Lib.hid hb_w5
                    have hB_w5 : Below w.heap.size w w5 := Below.trans (by (repeat (first | with_reducible exact Below.refl _ _ | with_reducible assumption | with_reducible refine Below.drew ?_ | (with_reducible refine Below.setCell ?_ ?_ _; rotate_left; (first | omega | (simp <;> omega))) | (with_reducible refine Below.alloc ?_ ?_ _; rotate_left; (first | omega | (simp <;> omega))) | exact Below.refl _ _ | assumption))) (hb_w5.mono (by first | omega | (simp <;> omega)))
                    clear hb_w5 c5__0 f5__0
                    try clear c6__0_0 f6__0_0 c6__0_1 f6__0_1 c6__0_2 f6__0_2 c6__0_3 f6__0_3 c6__0_4 f6__0_4 c6__0_5 f6__0_5 far_w6_w_0 hB_w6
                    have far_w5_w_0 := far (show w.heap.size < w5.heap.size by omega)
                    go_wp2_with fail
                    refine Calls.mono (C8.out _) ?_
                    rintro e w6 ⟨rfl, hb_w6⟩
                    have hz_w6 := hb_w6.size
                    try simp at hz_w6
                    obtain ⟨c6__0, f6__0⟩ := bk hb_w6 (w.heap.size) (by first | omega | (simp <;> omega))
                    have c6__0_0 := c6__0 0; conv at c6__0_0 => rhs; simp [go_sem, *]
                    have f6__0_0 := f6__0 0; conv at f6__0_0 => rhs; simp [go_sem, *]
                    have c6__0_1 := c6__0 1; conv at c6__0_1 => rhs; simp [go_sem, *]
                    have f6__0_1 := f6__0 1; conv at f6__0_1 => rhs; simp [go_sem, *]
                    have c6__0_2 := c6__0 2; conv at c6__0_2 => rhs; simp [go_sem, *]
                    have f6__0_2 := f6__0 2; conv at f6__0_2 => rhs; simp [go_sem, *]
                    have c6__0_3 := c6__0 3; conv at c6__0_3 => rhs; simp [go_sem, *]
                    have f6__0_3 := f6__0 3; conv at f6__0_3 => rhs; simp [go_sem, *]
                    have c6__0_4 := c6__0 4; conv at c6__0_4 => rhs; simp [go_sem, *]
                    have f6__0_4 := f6__0 4; conv at f6__0_4 => rhs; simp [go_sem, *]
                    have c6__0_5 := c6__0 5; conv at c6__0_5 => rhs; simp [go_sem, *]
                    have f6__0_5 := f6__0 5; conv at f6__0_5 => rhs; simp [go_sem, *]
                    have HH_w6 := Lib.hid hb_w6
                    have hB_w6 : Below w.heap.size w w6 := Below.trans (by (repeat (first | with_reducible exact Below.refl _ _ | with_reducible assumption | with_reducible refine Below.drew ?_ | (with_reducible refine Below.setCell ?_ ?_ _; rotate_left; (first | omega | (simp <;> omega))) | (with_reducible refine Below.alloc ?_ ?_ _; rotate_left; (first | omega | (simp <;> omega))) | exact Below.refl _ _ | assumption))) (hb_w6.mono (by first | omega | (simp <;> omega)))
                    clear hb_w6 c6__0 f6__0
                    try clear c5__0_0 f5__0_0 c5__0_1 f5__0_1 c5__0_2 f5__0_2 c5__0_3 f5__0_3 c5__0_4 f5__0_4 c5__0_5 f5__0_5 far_w5_w_0 hB_w5
                    have far_w6_w_0 := far (show w.heap.size < w6.heap.size by omega)
                    by_cases hcol : 0 ≤ b7 ∧ (b8 < 0 ∨ b7 < b8)
                    · obtain ⟨hc1, hc2⟩ := hcol
                      have HTF := Lib.hid (show tl = false by rw [HTL.out, decide_eq_true (show 0 ≤ b7 ∧ (b8 < 0 ∨ b7 < b8) from ⟨hc1, hc2⟩)]; simp)
                      rcases hc2 with hc2 | hc2
                      · go_wp2
                        go_ret
                        exact ⟨ret_bool (by rw [HTF.out]; simp), by (repeat (first | with_reducible exact Below.refl _ _ | with_reducible assumption | with_reducible refine Below.drew ?_ | (with_reducible refine Below.setCell ?_ ?_ _; rotate_left; (first | omega | (simp <;> omega))) | (with_reducible refine Below.alloc ?_ ?_ _; rotate_left; (first | omega | (simp <;> omega))) | exact Below.refl _ _ | assumption))⟩
                      · by_cases hc3 : b8 < 0
                        · go_wp2
                          go_ret
                          exact ⟨ret_bool (by rw [HTF.out]; simp), by (repeat (first | with_reducible exact Below.refl _ _ | with_reducible assumption | with_reducible refine Below.drew ?_ | (with_reducible refine Below.setCell ?_ ?_ _; rotate_left; (first | omega | (simp <;> omega))) | (with_reducible refine Below.alloc ?_ ?_ _; rotate_left; (first | omega | (simp <;> omega))) | exact Below.refl _ _ | assumption))⟩
                        · go_wp2
                          go_ret
                          exact ⟨ret_bool (by rw [HTF.out]; simp), by (repeat (first | with_reducible exact Below.refl _ _ | with_reducible assumption | with_reducible refine Below.drew ?_ | (with_reducible refine Below.setCell ?_ ?_ _; rotate_left; (first | omega | (simp <;> omega))) | (with_reducible refine Below.alloc ?_ ?_ _; rotate_left; (first | omega | (simp <;> omega))) | exact Below.refl _ _ | assumption))⟩
                    · have HTN := Lib.hid (show tl = (h.isEmpty && decide (n = 0) && !b9) by rw [HTL.out, decide_eq_false hcol]; simp)
                      have hcc : b7 < 0 ∨ (0 ≤ b7 ∧ 0 ≤ b8 ∧ b8 ≤ b7) := by omega
                      clear hcol
                      rcases hcc with hcc | ⟨hcc, hcd, hce⟩
                      all_goals
                        cases h with
                        | cons hx ht =>
                          go_wp2
                          go_ret
                          exact ⟨ret_bool (by rw [HTN.out]; simp), by (repeat (first | with_reducible exact Below.refl _ _ | with_reducible assumption | with_reducible refine Below.drew ?_ | (with_reducible refine Below.setCell ?_ ?_ _; rotate_left; (first | omega | (simp <;> omega))) | (with_reducible refine Below.alloc ?_ ?_ _; rotate_left; (first | omega | (simp <;> omega))) | exact Below.refl _ _ | assumption))⟩
                        | nil =>
                          by_cases hz : n = 0
                          · subst hz
                            go_wp2_with fail
                            refine Calls.mono (C9.out _) ?_
                            rintro e w7 ⟨rfl, hb_w7⟩
                            have hz_w7 := hb_w7.size
                            try simp at hz_w7
                            obtain ⟨c7__0, f7__0⟩ := bk hb_w7 (w.heap.size) (by first | omega | (simp <;> omega))
                            have c7__0_0 := c7__0 0; conv at c7__0_0 => rhs; simp [go_sem, *]
                            have f7__0_0 := f7__0 0; conv at f7__0_0 => rhs; simp [go_sem, *]
                            have c7__0_1 := c7__0 1; conv at c7__0_1 => rhs; simp [go_sem, *]
                            have f7__0_1 := f7__0 1; conv at f7__0_1 => rhs; simp [go_sem, *]
                            have c7__0_2 := c7__0 2; conv at c7__0_2 => rhs; simp [go_sem, *]
                            have f7__0_2 := f7__0 2; conv at f7__0_2 => rhs; simp [go_sem, *]
                            have c7__0_3 := c7__0 3; conv at c7__0_3 => rhs; simp [go_sem, *]
                            have f7__0_3 := f7__0 3; conv at f7__0_3 => rhs; simp [go_sem, *]
                            have c7__0_4 := c7__0 4; conv at c7__0_4 => rhs; simp [go_sem, *]
                            have f7__0_4 := f7__0 4; conv at f7__0_4 => rhs; simp [go_sem, *]
                            have c7__0_5 := c7__0 5; conv at c7__0_5 => rhs; simp [go_sem, *]
                            have f7__0_5 := f7__0 5; conv at f7__0_5 => rhs; simp [go_sem, *]
                            have HH_w7 := Lib.hid hb_w7
                            have hB_w7 : Below w.heap.size w w7 := Below.trans (by (repeat (first | with_reducible exact Below.refl _ _ | with_reducible assumption | with_reducible refine Below.drew ?_ | (with_reducible refine Below.setCell ?_ ?_ _; rotate_left; (first | omega | (simp <;> omega))) | (with_reducible refine Below.alloc ?_ ?_ _; rotate_left; (first | omega | (simp <;> omega))) | exact Below.refl _ _ | assumption))) (hb_w7.mono (by first | omega | (simp <;> omega)))
                            clear hb_w7 c7__0 f7__0
                            try clear c6__0_0 f6__0_0 c6__0_1 f6__0_1 c6__0_2 f6__0_2 c6__0_3 f6__0_3 c6__0_4 f6__0_4 c6__0_5 f6__0_5 far_w6_w_0 hB_w6
                            have far_w7_w_0 := far (show w.heap.size < w7.heap.size by omega)
                            go_wp2
                            go_ret
                            exact ⟨ret_bool (by have := HR.out; rw [HTN.out]; simp_all), by (repeat (first | with_reducible exact Below.refl _ _ | with_reducible assumption | with_reducible refine Below.drew ?_ | (with_reducible refine Below.setCell ?_ ?_ _; rotate_left; (first | omega | (simp <;> omega))) | (with_reducible refine Below.alloc ?_ ?_ _; rotate_left; (first | omega | (simp <;> omega))) | exact Below.refl _ _ | assumption))⟩
                          · have hz2 : (n == 0) = false := by simp; omega
                            go_wp2
                            go_ret
                            exact ⟨ret_bool (by rw [HTN.out]; simp [hz]), by (repeat (first | with_reducible exact Below.refl _ _ | with_reducible assumption | with_reducible refine Below.drew ?_ | (with_reducible refine Below.setCell ?_ ?_ _; rotate_left; (first | omega | (simp <;> omega))) | (with_reducible refine Below.alloc ?_ ?_ _; rotate_left; (first | omega | (simp <;> omega))) | exact Below.refl _ _ | assumption))⟩
end Go.Proofs.YtgjemgilanhdiaaGreatDoor
namespace Go.Proofs.YtgjemgilanhdiaaGreatDoor

def cStep (p out : List UInt8) : List UInt8 × List UInt8 :=
  if Lib.hasPrefix p [46, 46, 47] then (p.drop 3, out)
  else if Lib.hasPrefix p [46, 47] then (p.drop 2, out)
  else if Lib.hasPrefix p [47, 46, 47] then (p.drop 2, out)
  else if p == [47, 46] then ([47], out)
  else if Lib.hasPrefix p [47, 46, 46, 47] || p == [47, 46, 46] then (47 :: Lib.trimPrefix (p.drop 3) [47], out.take (max (lastL out 47) 0).toNat)
  else if p == [46] || p == [46, 46] then ([], out)
  else (p.drop (cutAt p), out ++ p.take (cutAt p))
where
    cutAt (p : List UInt8) : Nat := if Lib.indexByte (p.drop 1) 47 = -1 then p.length else (Lib.indexByte (p.drop 1) 47 + 1).toNat

def cFuel : Nat → List UInt8 → List UInt8 → List UInt8
  | 0, _, out => out
  | n + 1, p, out => if p = [] then out else cFuel n (cStep p out).1 (cStep p out).2
def cleanFrom (p out : List UInt8) : List UInt8 := cFuel p.length p out
def cleanL (p : List UInt8) : List UInt8 := cleanFrom p []

theorem hasPrefix_len {p q : List UInt8} (h : Lib.hasPrefix p q = true) : q.length ≤ p.length := by
  unfold Lib.hasPrefix at h
  rw [List.isPrefixOf_iff_prefix] at h
  exact h.length_le
theorem cutAt_lo {p : List UInt8} (h : p ≠ []) : 1 ≤ cStep.cutAt p ∧ cStep.cutAt p ≤ p.length := by
  have hp : 0 < p.length := List.length_pos_iff.2 h
  unfold cStep.cutAt
  split
  · omega
  · rename_i hn
    have := Lib.indexByte_ge (p.drop 1) 47
    obtain ⟨i, hi⟩ : ∃ i : Nat, Lib.indexByte (p.drop 1) 47 = i := ⟨(Lib.indexByte (p.drop 1) 47).toNat, by omega⟩
    obtain ⟨h1, _⟩ := Lib.indexByte_some hi
    have := (List.getElem?_eq_some_iff.1 h1).1
    simp at this
    rw [hi]; omega
theorem cStep_lt (p out : List UInt8) (h : p ≠ []) : (cStep p out).1.length < p.length := by
  have hp : 0 < p.length := List.length_pos_iff.2 h
  unfold cStep
  split
  · rename_i h1; have := hasPrefix_len h1; simp; omega
  split
  · rename_i h1; have := hasPrefix_len h1; simp; omega
  split
  · rename_i h1; have := hasPrefix_len h1; simp at this; simp; omega
  split
  · rename_i h1; have h2 : p = [47, 46] := by simpa using h1
    rw [h2]; simp
  split
  · rename_i h1
    simp only [Bool.or_eq_true] at h1
    have h3 : 3 ≤ p.length := by
      rcases h1 with h1 | h1
      · have := hasPrefix_len h1; simp at this; omega
      · have h2 : p = [47, 46, 46] := by simpa using h1
        rw [h2]; simp
    have h4 : (Lib.trimPrefix (p.drop 3) [47]).length ≤ (p.drop 3).length := by unfold Lib.trimPrefix; split <;> simp <;> omega
    simp at h4 ⊢; omega
  split
  · simpa using hp
  · have := cutAt_lo h; simp; omega
theorem cStep_out (p out : List UInt8) (h : p ≠ []) : (cStep p out).1.length + (cStep p out).2.length ≤ p.length + out.length := by
  have hp : 0 < p.length := List.length_pos_iff.2 h
  have h1 := cStep_lt p out h
  by_cases hc : (cStep p out).2.length ≤ out.length
  · omega
  · unfold cStep at h1 hc ⊢
    repeat' (split at hc <;> simp_all <;> try omega)
    all_goals (try omega)
    all_goals (have := cutAt_lo h; simp_all; try omega)
theorem cFuel_more (n : Nat) : ∀ (p out : List UInt8), p.length ≤ n → cFuel n p out = cFuel p.length p out := by
  induction n using Nat.strongRecOn with
  | _ n ih =>
    intro p out hn
    by_cases hp : p = []
    · subst hp; cases n <;> simp [cFuel]
    · have hpos : 0 < p.length := List.length_pos_iff.2 hp
      have hlt := cStep_lt p out hp
      obtain ⟨m, rfl⟩ : ∃ m, n = m + 1 := ⟨n - 1, by omega⟩
      obtain ⟨k, hk⟩ : ∃ k, p.length = k + 1 := ⟨p.length - 1, by omega⟩
      rw [hk]
      simp only [cFuel, if_neg hp]
      rw [ih m (by omega) _ _ (by omega)]
      by_cases hmk : k = m
      · subst hmk; rw [ih k (by omega) _ _ (by omega)]
      · rw [ih k (by omega) _ _ (by omega)]
theorem cleanFrom_nil (out : List UInt8) : cleanFrom [] out = out := rfl
theorem cleanFrom_step {p out p' out' : List UInt8} (h : p ≠ []) (hs : cStep p out = (p', out')) : cleanFrom p out = cleanFrom p' out' := by
  have hpos : 0 < p.length := List.length_pos_iff.2 h
  have hlt := cStep_lt p out h
  unfold cleanFrom
  obtain ⟨k, hk⟩ : ∃ k, p.length = k + 1 := ⟨p.length - 1, by omega⟩
  rw [hk]
  simp only [cFuel, if_neg h]
  rw [hs] at hlt ⊢
  exact cFuel_more _ _ _ (by omega)
end Go.Proofs.YtgjemgilanhdiaaGreatDoor
