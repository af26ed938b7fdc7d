/- strings.Contains and strings.Cut at one byte. uri.write and the document's Write: the walks. -/
import Derived.Test.YtgjemgilanhdiaaGreatDoorRf2
import Derived.Test.YtgjemgilanhdiaaGreatDoorRf5
namespace Go.Proofs.YtgjemgilanhdiaaGreatDoor
open Go.RowKit Go.Sort Go.Shelf
set_option linter.unusedVariables false

def cut1 (l : List UInt8) (c : UInt8) : List UInt8 × List UInt8 × Bool :=
  if 0 ≤ Lib.indexByte l c then (l.take (Lib.indexByte l c).toNat, l.drop ((Lib.indexByte l c).toNat + 1), true) else (l, [], false)

theorem contains1_S {l : List UInt8} {c : UInt8} {b : Bool} (h : decide (0 ≤ Lib.indexByte l c) = b) (w : World) : Calls Tryz.prog 74 #[.string (S l), .string (S [c])] w fun e w' => e = .returned (.bool b) ∧ w' = w :=
  (Tryz.strings_Contains_one (S l) c w).mono fun e w' ⟨h1, h2⟩ => ⟨h1.trans (by rw [S_data, h]), h2⟩
theorem index1_S (l : List UInt8) (c : UInt8) (w : World) : Calls Tryz.prog 105 #[.string (S l), .string (S [c])] w fun e w' => e = .returned (.int .i64 (Lib.indexByte l c)) ∧ w' = w :=
  (Tryz.stringslite_Index_one (S l) c w).mono fun e w' ⟨h1, h2⟩ => ⟨h1.trans (by rw [S_data]), h2⟩

theorem indexByte_lt (l : List UInt8) (c : UInt8) : Lib.indexByte l c < l.length := by
  have := Lib.indexByte_ge l c
  by_cases h : Lib.indexByte l c = -1
  · omega
  · obtain ⟨i, hi⟩ : ∃ i : Nat, Lib.indexByte l c = i := ⟨(Lib.indexByte l c).toNat, by omega⟩
    obtain ⟨h1, _⟩ := Lib.indexByte_some hi
    have := (List.getElem?_eq_some_iff.1 h1).1
    omega

set_option maxHeartbeats 800000 in
theorem liteCut (l : List UInt8) (c : UInt8) (hl : l.length ≤ 4611686018427387903) (w : World) : Calls Tryz.prog 95 #[.string (S l), .string (S [c])] w fun e w' => e = .returned (.tuple #[.string (S (cut1 l c).1), .string (S (cut1 l c).2.1), .bool (cut1 l c).2.2]) ∧ Below w.heap.size w w' := by
  have HI := Lib.hid (index1_S l c)
  unfold cut1
  have hlt := indexByte_lt l c
  have hge := Lib.indexByte_ge l c
  obtain ⟨i, hi⟩ : ∃ i, Lib.indexByte l c = i := ⟨_, rfl⟩
  rw [hi] at HI hlt hge ⊢
  clear hi
  by_cases h0 : 0 ≤ i
  · rw [if_pos h0]
    obtain ⟨k, rfl⟩ : ∃ k : Nat, i = k := ⟨i.toNat, by omega⟩
    go_enter Tryz.func95, Tryz.ntmps95
    go_wp2_with (go_at_call 105; refine (HI.out _).mono ?_; rintro e w' ⟨rfl, rfl⟩)
    go_region
    all_goals
      go_wp2
      go_ret3
      exact ⟨by first | rfl | (simp; done) | (congr 3; simp <;> omega), by (repeat (first | with_reducible exact Below.refl _ _ | with_reducible assumption | with_reducible refine Below.drew ?_ | (with_reducible refine Below.setCell ?_ ?_ _; rotate_left; (first | omega | (simp <;> omega))) | (with_reducible refine Below.alloc ?_ ?_ _; rotate_left; (first | omega | (simp <;> omega))) | exact Below.refl _ _ | assumption))⟩
  · rw [if_neg h0]
    go_enter Tryz.func95, Tryz.ntmps95
    go_wp2_with (go_at_call 105; refine (HI.out _).mono ?_; rintro e w' ⟨rfl, rfl⟩)
    go_ret3
    exact ⟨by first | rfl | (simp; done), by (repeat (first | with_reducible exact Below.refl _ _ | with_reducible assumption | with_reducible refine Below.drew ?_ | (with_reducible refine Below.setCell ?_ ?_ _; rotate_left; (first | omega | (simp <;> omega))) | (with_reducible refine Below.alloc ?_ ?_ _; rotate_left; (first | omega | (simp <;> omega))) | exact Below.refl _ _ | assumption))⟩

set_option maxHeartbeats 800000 in
theorem cut1_S {l a b : List UInt8} {c : UInt8} {t : Bool} (h : cut1 l c = (a, b, t)) (hl : l.length ≤ 4611686018427387903) (w : World) : Calls Tryz.prog 72 #[.string (S l), .string (S [c])] w fun e w' => e = .returned (.tuple #[.string (S a), .string (S b), .bool t]) ∧ Below w.heap.size w w' := by
  have hc := fun W => liteCut l c hl W
  rw [h] at hc
  have HC := Lib.hid hc
  clear hc h
  go_enter Tryz.func72, Tryz.ntmps72
  go_wp2_with (go_at_call 95; refine (HC.out _).mono ?_; rintro e w' ⟨rfl, hb⟩)
  go_ret3
  exact ⟨rfl, by (repeat (first | with_reducible exact Below.refl _ _ | with_reducible assumption | with_reducible refine Below.drew ?_ | (with_reducible refine Below.setCell ?_ ?_ _; rotate_left; (first | omega | (simp <;> omega))) | (with_reducible refine Below.alloc ?_ ?_ _; rotate_left; (first | omega | (simp <;> omega))) | exact Below.refl _ _ | assumption))⟩
end Go.Proofs.YtgjemgilanhdiaaGreatDoor
namespace Go.Proofs.YtgjemgilanhdiaaGreatDoor
open Go.RowKit Go.Sort Go.Shelf
set_option linter.unusedVariables false

def httpL : List UInt8 := [104, 116, 116, 112, 58, 47, 47]
def writeL (a : Bool) (h : List UInt8) (n : Nat) (p : List UInt8) (q : Bool) (y : List UInt8) : List UInt8 :=
  (if a then httpL ++ h ++ (if n = 0 then [] else 58 :: Lib.decDigits n) else []) ++ p ++ (if q then 63 :: y else [])
abbrev uv (a : Bool) (h : List UInt8) (n : Int) (p : List UInt8) (q : Bool) (y : List UInt8) : Value := .agg #[.bool a, .string (S h), .int .i64 n, .string (S p), .bool q, .string (S y)]

set_option maxHeartbeats 1600000 in
theorem uriWrite (a : Bool) (h : List UInt8) (n : Nat) (p : List UInt8) (q : Bool) (y : List UInt8) (hh : h.length ≤ 1000000) (hn : n ≤ 65535) (hp : p.length ≤ 1000000) (hy : y.length ≤ 1000000) (w : World) (hL : Laid w) :
    Calls Tryz.prog 75 #[uv a h n p q y] w fun e w' => e = .returned (.string (S (writeL a h n p q y))) ∧ Below w.heap.size w w' := by
  have hdl : (Lib.decDigits n).length ≤ 20 := by rw [Lib.decDigits_length]; exact Lib.nDigits_le20 n (by omega)
  have C1 := Lib.hid (fun W hb => decC n (by omega) W (hL.on hb))
  have C2 := Lib.hid (fun W => digitsDec n (by omega) W)
  unfold writeL httpL uv
  obtain ⟨d, hd⟩ : ∃ d, Lib.decDigits n = d := ⟨_, rfl⟩
  rw [hd] at C1 C2 hdl ⊢
  clear hd hL
  cases a with
  | false =>
    cases q with
    | false =>
      go_enter Tryz.func75, Tryz.ntmps75
      go_wp2
      go_ret
      exact ⟨by simp, by (repeat (first | with_reducible exact Below.refl _ _ | with_reducible assumption | with_reducible refine Below.drew ?_ | (with_reducible refine Below.setCell ?_ ?_ _; rotate_left; (first | omega | (simp <;> omega))) | (with_reducible refine Below.alloc ?_ ?_ _; rotate_left; (first | omega | (simp <;> omega))) | exact Below.refl _ _ | assumption))⟩
    | true =>
      go_enter Tryz.func75, Tryz.ntmps75
      go_wp2
      go_ret
      exact ⟨by simp, by (repeat (first | with_reducible exact Below.refl _ _ | with_reducible assumption | with_reducible refine Below.drew ?_ | (with_reducible refine Below.setCell ?_ ?_ _; rotate_left; (first | omega | (simp <;> omega))) | (with_reducible refine Below.alloc ?_ ?_ _; rotate_left; (first | omega | (simp <;> omega))) | exact Below.refl _ _ | assumption))⟩
  | true =>
    by_cases h0 : n = 0
    · subst h0
      cases q with
      | false =>
        go_enter Tryz.func75, Tryz.ntmps75
        go_wp2
        go_ret
        exact ⟨by simp, by (repeat (first | with_reducible exact Below.refl _ _ | with_reducible assumption | with_reducible refine Below.drew ?_ | (with_reducible refine Below.setCell ?_ ?_ _; rotate_left; (first | omega | (simp <;> omega))) | (with_reducible refine Below.alloc ?_ ?_ _; rotate_left; (first | omega | (simp <;> omega))) | exact Below.refl _ _ | assumption))⟩
      | true =>
        go_enter Tryz.func75, Tryz.ntmps75
        go_wp2
        go_ret
        exact ⟨by simp, by (repeat (first | with_reducible exact Below.refl _ _ | with_reducible assumption | with_reducible refine Below.drew ?_ | (with_reducible refine Below.setCell ?_ ?_ _; rotate_left; (first | omega | (simp <;> omega))) | (with_reducible refine Below.alloc ?_ ?_ _; rotate_left; (first | omega | (simp <;> omega))) | exact Below.refl _ _ | assumption))⟩
    · have h1 : ((n : Int) == 0) = false := by simp; omega
      rw [if_neg h0]
      cases q with
      | false =>
        go_enter Tryz.func75, Tryz.ntmps75
        go_wp2_with fail
        refine Calls.mono (C1.out _ (by (repeat (first | with_reducible exact Below.refl _ _ | with_reducible assumption | with_reducible refine Below.drew ?_ | (with_reducible refine Below.setCell ?_ ?_ _; rotate_left; (first | omega | (simp <;> omega))) | (with_reducible refine Below.alloc ?_ ?_ _; rotate_left; (first | omega | (simp <;> omega))) | exact Below.refl _ _ | assumption)))) ?_
        rintro e w1 ⟨rfl, hb_w1⟩
        have hz_w1 := hb_w1.size
        try simp at hz_w1
        obtain ⟨c1__0, f1__0⟩ := bk hb_w1 (w.heap.size) (by first | omega | (simp <;> omega))
        have c1__0_0 := c1__0 0; conv at c1__0_0 => rhs; simp [go_sem, *]
        have f1__0_0 := f1__0 0; conv at f1__0_0 => rhs; simp [go_sem, *]
        have c1__0_1 := c1__0 1; conv at c1__0_1 => rhs; simp [go_sem, *]
        have f1__0_1 := f1__0 1; conv at f1__0_1 => rhs; simp [go_sem, *]
        have c1__0_2 := c1__0 2; conv at c1__0_2 => rhs; simp [go_sem, *]
        have f1__0_2 := f1__0 2; conv at f1__0_2 => rhs; simp [go_sem, *]
        have c1__0_3 := c1__0 3; conv at c1__0_3 => rhs; simp [go_sem, *]
        have f1__0_3 := f1__0 3; conv at f1__0_3 => rhs; simp [go_sem, *]
        have c1__0_4 := c1__0 4; conv at c1__0_4 => rhs; simp [go_sem, *]
        have f1__0_4 := f1__0 4; conv at f1__0_4 => rhs; simp [go_sem, *]
        have c1__0_5 := c1__0 5; conv at c1__0_5 => rhs; simp [go_sem, *]
        have f1__0_5 := f1__0 5; conv at f1__0_5 => rhs; simp [go_sem, *]
        have HH_w1 := Lib.hid hb_w1
        have hB_w1 : Below w.heap.size w w1 := Below.trans (by (repeat (first | with_reducible exact Below.refl _ _ | with_reducible assumption | with_reducible refine Below.drew ?_ | (with_reducible refine Below.setCell ?_ ?_ _; rotate_left; (first | omega | (simp <;> omega))) | (with_reducible refine Below.alloc ?_ ?_ _; rotate_left; (first | omega | (simp <;> omega))) | exact Below.refl _ _ | assumption))) (hb_w1.mono (by first | omega | (simp <;> omega)))
        clear hb_w1 c1__0 f1__0
        have far_w1_w_0 := far (show w.heap.size < w1.heap.size by omega)
        go_wp2
        go_ret
        exact ⟨by simp, by (repeat (first | with_reducible exact Below.refl _ _ | with_reducible assumption | with_reducible refine Below.drew ?_ | (with_reducible refine Below.setCell ?_ ?_ _; rotate_left; (first | omega | (simp <;> omega))) | (with_reducible refine Below.alloc ?_ ?_ _; rotate_left; (first | omega | (simp <;> omega))) | exact Below.refl _ _ | assumption))⟩
      | true =>
        go_enter Tryz.func75, Tryz.ntmps75
        go_wp2_with fail
        refine Calls.mono (C1.out _ (by (repeat (first | with_reducible exact Below.refl _ _ | with_reducible assumption | with_reducible refine Below.drew ?_ | (with_reducible refine Below.setCell ?_ ?_ _; rotate_left; (first | omega | (simp <;> omega))) | (with_reducible refine Below.alloc ?_ ?_ _; rotate_left; (first | omega | (simp <;> omega))) | exact Below.refl _ _ | assumption)))) ?_
        rintro e w1 ⟨rfl, hb_w1⟩
        have hz_w1 := hb_w1.size
        try simp at hz_w1
        obtain ⟨c1__0, f1__0⟩ := bk hb_w1 (w.heap.size) (by first | omega | (simp <;> omega))
        have c1__0_0 := c1__0 0; conv at c1__0_0 => rhs; simp [go_sem, *]
        have f1__0_0 := f1__0 0; conv at f1__0_0 => rhs; simp [go_sem, *]
        have c1__0_1 := c1__0 1; conv at c1__0_1 => rhs; simp [go_sem, *]
        have f1__0_1 := f1__0 1; conv at f1__0_1 => rhs; simp [go_sem, *]
        have c1__0_2 := c1__0 2; conv at c1__0_2 => rhs; simp [go_sem, *]
        have f1__0_2 := f1__0 2; conv at f1__0_2 => rhs; simp [go_sem, *]
        have c1__0_3 := c1__0 3; conv at c1__0_3 => rhs; simp [go_sem, *]
        have f1__0_3 := f1__0 3; conv at f1__0_3 => rhs; simp [go_sem, *]
        have c1__0_4 := c1__0 4; conv at c1__0_4 => rhs; simp [go_sem, *]
        have f1__0_4 := f1__0 4; conv at f1__0_4 => rhs; simp [go_sem, *]
        have c1__0_5 := c1__0 5; conv at c1__0_5 => rhs; simp [go_sem, *]
        have f1__0_5 := f1__0 5; conv at f1__0_5 => rhs; simp [go_sem, *]
        have HH_w1 := Lib.hid hb_w1
        have hB_w1 : Below w.heap.size w w1 := Below.trans (by (repeat (first | with_reducible exact Below.refl _ _ | with_reducible assumption | with_reducible refine Below.drew ?_ | (with_reducible refine Below.setCell ?_ ?_ _; rotate_left; (first | omega | (simp <;> omega))) | (with_reducible refine Below.alloc ?_ ?_ _; rotate_left; (first | omega | (simp <;> omega))) | exact Below.refl _ _ | assumption))) (hb_w1.mono (by first | omega | (simp <;> omega)))
        clear hb_w1 c1__0 f1__0
        have far_w1_w_0 := far (show w.heap.size < w1.heap.size by omega)
        go_wp2
        go_ret
        exact ⟨by simp, by (repeat (first | with_reducible exact Below.refl _ _ | with_reducible assumption | with_reducible refine Below.drew ?_ | (with_reducible refine Below.setCell ?_ ?_ _; rotate_left; (first | omega | (simp <;> omega))) | (with_reducible refine Below.alloc ?_ ?_ _; rotate_left; (first | omega | (simp <;> omega))) | exact Below.refl _ _ | assumption))⟩
set_option maxHeartbeats 1600000 in
theorem refWrite (a : Bool) (h : List UInt8) (n : Nat) (p : List UInt8) (q : Bool) (y : List UInt8) (hh : h.length ≤ 1000000) (hn : n ≤ 65535) (hp : p.length ≤ 1000000) (hy : y.length ≤ 1000000) (w : World) (hL : Laid w) :
    Calls Tryz.prog 54 #[uv a h n p q y] w fun e w' => e = .returned (.string (S (writeL a h n p q y))) ∧ Below w.heap.size w w' := by
  have hdl : (Lib.decDigits n).length ≤ 20 := by rw [Lib.decDigits_length]; exact Lib.nDigits_le20 n (by omega)
  have C1 := Lib.hid (fun W hb => decC n (by omega) W (hL.on hb))
  have C2 := Lib.hid (fun W => digitsDec n (by omega) W)
  unfold writeL httpL uv
  obtain ⟨d, hd⟩ : ∃ d, Lib.decDigits n = d := ⟨_, rfl⟩
  rw [hd] at C1 C2 hdl ⊢
  clear hd hL
  cases a with
  | false =>
    cases q with
    | false =>
      go_enter Tryz.func54, Tryz.ntmps54
      go_wp2
      go_ret
      exact ⟨by simp, by (repeat (first | with_reducible exact Below.refl _ _ | with_reducible assumption | with_reducible refine Below.drew ?_ | (with_reducible refine Below.setCell ?_ ?_ _; rotate_left; (first | omega | (simp <;> omega))) | (with_reducible refine Below.alloc ?_ ?_ _; rotate_left; (first | omega | (simp <;> omega))) | exact Below.refl _ _ | assumption))⟩
    | true =>
      go_enter Tryz.func54, Tryz.ntmps54
      go_wp2
      go_ret
      exact ⟨by simp, by (repeat (first | with_reducible exact Below.refl _ _ | with_reducible assumption | with_reducible refine Below.drew ?_ | (with_reducible refine Below.setCell ?_ ?_ _; rotate_left; (first | omega | (simp <;> omega))) | (with_reducible refine Below.alloc ?_ ?_ _; rotate_left; (first | omega | (simp <;> omega))) | exact Below.refl _ _ | assumption))⟩
  | true =>
    by_cases h0 : n = 0
    · subst h0
      cases q with
      | false =>
        go_enter Tryz.func54, Tryz.ntmps54
        go_wp2
        go_ret
        exact ⟨by simp, by (repeat (first | with_reducible exact Below.refl _ _ | with_reducible assumption | with_reducible refine Below.drew ?_ | (with_reducible refine Below.setCell ?_ ?_ _; rotate_left; (first | omega | (simp <;> omega))) | (with_reducible refine Below.alloc ?_ ?_ _; rotate_left; (first | omega | (simp <;> omega))) | exact Below.refl _ _ | assumption))⟩
      | true =>
        go_enter Tryz.func54, Tryz.ntmps54
        go_wp2
        go_ret
        exact ⟨by simp, by (repeat (first | with_reducible exact Below.refl _ _ | with_reducible assumption | with_reducible refine Below.drew ?_ | (with_reducible refine Below.setCell ?_ ?_ _; rotate_left; (first | omega | (simp <;> omega))) | (with_reducible refine Below.alloc ?_ ?_ _; rotate_left; (first | omega | (simp <;> omega))) | exact Below.refl _ _ | assumption))⟩
    · have h1 : ((n : Int) == 0) = false := by simp; omega
      rw [if_neg h0]
      cases q with
      | false =>
        go_enter Tryz.func54, Tryz.ntmps54
        go_wp2_with fail
        refine Calls.mono (C2.out _) ?_
        rintro e w1 ⟨rfl, hb_w1⟩
        have hz_w1 := hb_w1.size
        try simp at hz_w1
        obtain ⟨c1__0, f1__0⟩ := bk hb_w1 (w.heap.size) (by first | omega | (simp <;> omega))
        have c1__0_0 := c1__0 0; conv at c1__0_0 => rhs; simp [go_sem, *]
        have f1__0_0 := f1__0 0; conv at f1__0_0 => rhs; simp [go_sem, *]
        have c1__0_1 := c1__0 1; conv at c1__0_1 => rhs; simp [go_sem, *]
        have f1__0_1 := f1__0 1; conv at f1__0_1 => rhs; simp [go_sem, *]
        have c1__0_2 := c1__0 2; conv at c1__0_2 => rhs; simp [go_sem, *]
        have f1__0_2 := f1__0 2; conv at f1__0_2 => rhs; simp [go_sem, *]
        have c1__0_3 := c1__0 3; conv at c1__0_3 => rhs; simp [go_sem, *]
        have f1__0_3 := f1__0 3; conv at f1__0_3 => rhs; simp [go_sem, *]
        have c1__0_4 := c1__0 4; conv at c1__0_4 => rhs; simp [go_sem, *]
        have f1__0_4 := f1__0 4; conv at f1__0_4 => rhs; simp [go_sem, *]
        have c1__0_5 := c1__0 5; conv at c1__0_5 => rhs; simp [go_sem, *]
        have f1__0_5 := f1__0 5; conv at f1__0_5 => rhs; simp [go_sem, *]
        have HH_w1 := Lib.hid hb_w1
        have hB_w1 : Below w.heap.size w w1 := Below.trans (by (repeat (first | with_reducible exact Below.refl _ _ | with_reducible assumption | with_reducible refine Below.drew ?_ | (with_reducible refine Below.setCell ?_ ?_ _; rotate_left; (first | omega | (simp <;> omega))) | (with_reducible refine Below.alloc ?_ ?_ _; rotate_left; (first | omega | (simp <;> omega))) | exact Below.refl _ _ | assumption))) (hb_w1.mono (by first | omega | (simp <;> omega)))
        clear hb_w1 c1__0 f1__0
        have far_w1_w_0 := far (show w.heap.size < w1.heap.size by omega)
        go_wp2
        go_ret
        exact ⟨by simp, by (repeat (first | with_reducible exact Below.refl _ _ | with_reducible assumption | with_reducible refine Below.drew ?_ | (with_reducible refine Below.setCell ?_ ?_ _; rotate_left; (first | omega | (simp <;> omega))) | (with_reducible refine Below.alloc ?_ ?_ _; rotate_left; (first | omega | (simp <;> omega))) | exact Below.refl _ _ | assumption))⟩
      | true =>
        go_enter Tryz.func54, Tryz.ntmps54
        go_wp2_with fail
        refine Calls.mono (C2.out _) ?_
        rintro e w1 ⟨rfl, hb_w1⟩
        have hz_w1 := hb_w1.size
        try simp at hz_w1
        obtain ⟨c1__0, f1__0⟩ := bk hb_w1 (w.heap.size) (by first | omega | (simp <;> omega))
        have c1__0_0 := c1__0 0; conv at c1__0_0 => rhs; simp [go_sem, *]
        have f1__0_0 := f1__0 0; conv at f1__0_0 => rhs; simp [go_sem, *]
        have c1__0_1 := c1__0 1; conv at c1__0_1 => rhs; simp [go_sem, *]
        have f1__0_1 := f1__0 1; conv at f1__0_1 => rhs; simp [go_sem, *]
        have c1__0_2 := c1__0 2; conv at c1__0_2 => rhs; simp [go_sem, *]
        have f1__0_2 := f1__0 2; conv at f1__0_2 => rhs; simp [go_sem, *]
        have c1__0_3 := c1__0 3; conv at c1__0_3 => rhs; simp [go_sem, *]
        have f1__0_3 := f1__0 3; conv at f1__0_3 => rhs; simp [go_sem, *]
        have c1__0_4 := c1__0 4; conv at c1__0_4 => rhs; simp [go_sem, *]
        have f1__0_4 := f1__0 4; conv at f1__0_4 => rhs; simp [go_sem, *]
        have c1__0_5 := c1__0 5; conv at c1__0_5 => rhs; simp [go_sem, *]
        have f1__0_5 := f1__0 5; conv at f1__0_5 => rhs; simp [go_sem, *]
        have HH_w1 := Lib.hid hb_w1
        have hB_w1 : Below w.heap.size w w1 := Below.trans (by (repeat (first | with_reducible exact Below.refl _ _ | with_reducible assumption | with_reducible refine Below.drew ?_ | (with_reducible refine Below.setCell ?_ ?_ _; rotate_left; (first | omega | (simp <;> omega))) | (with_reducible refine Below.alloc ?_ ?_ _; rotate_left; (first | omega | (simp <;> omega))) | exact Below.refl _ _ | assumption))) (hb_w1.mono (by first | omega | (simp <;> omega)))
        clear hb_w1 c1__0 f1__0
        have far_w1_w_0 := far (show w.heap.size < w1.heap.size by omega)
        go_wp2
        go_ret
        exact ⟨by simp, by (repeat (first | with_reducible exact Below.refl _ _ | with_reducible assumption | with_reducible refine Below.drew ?_ | (with_reducible refine Below.setCell ?_ ?_ _; rotate_left; (first | omega | (simp <;> omega))) | (with_reducible refine Below.alloc ?_ ?_ _; rotate_left; (first | omega | (simp <;> omega))) | exact Below.refl _ _ | assumption))⟩
end Go.Proofs.YtgjemgilanhdiaaGreatDoor
