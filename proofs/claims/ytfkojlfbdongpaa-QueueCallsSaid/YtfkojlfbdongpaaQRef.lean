/- Walks of the reference's queue functions. -/
import Derived.Test.YtfkojlfbdongpaaQWalk
namespace Go.Proofs.Ytfkojlfbdongpaa
open Go.RowKit
set_option linter.unusedVariables false

set_option maxHeartbeats 400000 in
theorem ref_take {l x y : List UInt8} {c n : Int} {k : Nat} (h : 0 ≤ n) (hk : takeN l n = k) (hl : l.length ≤ 65536) (hx : l.drop k = x) (hy : l.take k = y) (w : World) : Calls Try.prog 19 #[.agg #[.string (S l), .int .i64 c], .int .i64 n] w fun e w' =>
    e = .returned (.tuple #[.agg #[.string (S x), .int .i64 c], .string (S y)]) ∧ Below w.heap.size w w' := by
  subst hx
  subst hy
  by_cases hc : n < l.length
  · obtain ⟨q, rfl⟩ := Int.eq_ofNat_of_zero_le h
    obtain rfl : q = k := by rw [← hk]; unfold takeN; omega
    clear hk
    go_enter Try.func19, Try.ntmps19
    go_wp2
    go_region
    go_wp2
    exact bodyPost_ret (v := .tuple #[.agg #[.string (S (l.drop q)), .int .i64 c], .string (S (l.take q))]) (by simp [results, Try.results19, go_sem, *]) rfl ⟨rfl, by (repeat (first | exact Below.refl _ _ | assumption | refine Below.drew ?_ | refine Below.alloc ?_ (by first | omega | (simp <;> omega)) _ | refine Below.setCell ?_ (by first | omega | (simp <;> omega)) _))⟩
  · obtain rfl : l.length = k := by rw [← hk]; unfold takeN; omega
    clear hk
    rw [List.drop_length, List.take_length]
    go_enter Try.func19, Try.ntmps19
    go_wp2
    go_region
    go_wp2
    exact bodyPost_ret (v := .tuple #[.agg #[.string (S []), .int .i64 c], .string (S l)]) (by simp [results, Try.results19, go_sem, *]) rfl ⟨rfl, by (repeat (first | exact Below.refl _ _ | assumption | refine Below.drew ?_ | refine Below.alloc ?_ (by first | omega | (simp <;> omega)) _ | refine Below.setCell ?_ (by first | omega | (simp <;> omega)) _))⟩

set_option maxHeartbeats 400000 in
theorem ref_put {l t r : List UInt8} {c : Int} {n : Nat} (h : rightL l c = true) (ht : t.length ≤ 1000) (hn : putN l c t = n) (hr : l ++ t.take n = r) (w : World) : Calls Try.prog 17 #[.agg #[.string (S l), .int .i64 c], .string (S t)] w fun e w' =>
    e = .returned (.tuple #[.agg #[.string (S r), .int .i64 c], .int .i64 n]) ∧ Below w.heap.size w w' := by
  obtain ⟨h1, h2, h3⟩ := rightL_true h
  clear h
  subst hr
  have hn1 : n ≤ t.length := by rw [← hn]; unfold putN; omega
  have hn2 : (l.length : Int) + n ≤ c := by rw [← hn]; unfold putN; omega
  have hn3 : n = t.length ∨ (l.length : Int) + n = c := by rw [← hn]; unfold putN; omega
  have HN := Lib.hid hn3
  clear hn hn3
  go_enter Try.func17, Try.ntmps17
  go_wp2
  go_loop [6] (fun v => ∃ k : Nat, k ≤ n ∧ v = .int .i64 k) (fun v => n - (intOf v).toNat)
  case atStart => exact ⟨0, Nat.zero_le _, rfl⟩
  case round =>
    obtain ⟨k, hk, rfl⟩ := hrel
    by_cases hlt : k < n
    · have h5 : k < t.length := by omega
      have h6 : (l.length : Int) + k < c := by omega
      go_wp2
      go_round
      case rel => exact ⟨k + 1, by omega, by go_num⟩
      case measure => simp [intOf]; omega
    · obtain rfl : k = n := by omega
      by_cases h5 : k < t.length
      · have h6 : (l.length : Int) + k = c := by rcases HN.out with h | h <;> omega
        have h7 : ¬ (l.length : Int) + k < c := by omega
        have H6 := Lib.hid h6
        clear h6 hlt
        go_wp2
        go_region
        go_wp2
        exact bodyPost_ret (v := .tuple #[.agg #[.string (S (l ++ t.take k)), .int .i64 c], .int .i64 k]) (by simp [results, Try.results17, go_sem, *]) rfl ⟨rfl, by (repeat (first | exact Below.refl _ _ | assumption | refine Below.drew ?_ | refine Below.alloc ?_ (by first | omega | (simp <;> omega)) _ | refine Below.setCell ?_ (by first | omega | (simp <;> omega)) _))⟩
      · clear hlt
        go_wp2
        go_region
        go_wp2
        exact bodyPost_ret (v := .tuple #[.agg #[.string (S (l ++ t.take k)), .int .i64 c], .int .i64 k]) (by simp [results, Try.results17, go_sem, *]) rfl ⟨rfl, by (repeat (first | exact Below.refl _ _ | assumption | refine Below.drew ?_ | refine Below.alloc ?_ (by first | omega | (simp <;> omega)) _ | refine Below.setCell ?_ (by first | omega | (simp <;> omega)) _))⟩

theorem bAt_ne {l : List UInt8} {k : Nat} {b : UInt8} (hk : k < l.length) (h : l[k] ≠ b) : bAt l k ≠ (b.toNat : Int) := by
  rw [bAt_eq hk]
  intro e
  exact h (UInt8.toNat.inj (by omega))
theorem bAt_is {l : List UInt8} {k : Nat} {b : UInt8} (hk : k < l.length) (h : l[k] = b) : bAt l k = (b.toNat : Int) := by
  rw [bAt_eq hk, h]

set_option maxHeartbeats 800000 in
theorem ref_line_none {l : List UInt8} {c : Int} (hl : l.length ≤ 65536) (hi : idx10 l = -1) (w : World) : Calls Try.prog 18 #[.agg #[.string (S l), .int .i64 c]] w fun e w' =>
    e = .returned (.tuple #[.agg #[.string (S l), .int .i64 c], .string (S []), .bool false]) ∧ Below w.heap.size w w' := by
  have hno := idx_none hi
  have HNO := Lib.hid hno
  clear hno hi
  have hix := fun (w : World) (i : Int) (h0 : 0 ≤ i) (h1 : i < l.length) => run_index_S (P := Try.prog) w 9 l .i64 i Try.underlying9 h0 h1
  go_enter Try.func18, Try.ntmps18
  go_wp2
  go_loop [5] (fun v => ∃ k : Nat, k ≤ l.length ∧ v = .int .i64 k) (fun v => l.length - (intOf v).toNat)
  case atStart => exact ⟨0, Nat.zero_le _, rfl⟩
  case round =>
    obtain ⟨k, hk, rfl⟩ := hrel
    by_cases hlt : k < l.length
    · have h5 : (bAt l k == 10) = false := by have := bAt_ne hlt (HNO.out k hlt); simpa using this
      go_wp2
      go_round
      case rel => exact ⟨k + 1, by omega, by go_num⟩
      case measure => simp [intOf]; omega
    · obtain rfl : k = l.length := by omega
      go_wp2
      exact bodyPost_ret (v := .tuple #[.agg #[.string (S l), .int .i64 c], .string (S []), .bool false]) (by simp [results, Try.results18, go_sem, *]) rfl ⟨rfl, by (repeat (first | exact Below.refl _ _ | assumption | refine Below.drew ?_ | refine Below.alloc ?_ (by first | omega | (simp <;> omega)) _ | refine Below.setCell ?_ (by first | omega | (simp <;> omega)) _))⟩

set_option maxHeartbeats 800000 in
theorem ref_line_some {l x : List UInt8} {c : Int} {i : Nat} (hl : l.length ≤ 65536) (hi : idx10 l = i) (hx : cut13 (l.take i) = x) (w : World) : Calls Try.prog 18 #[.agg #[.string (S l), .int .i64 c]] w fun e w' =>
    e = .returned (.tuple #[.agg #[.string (S (l.drop (i + 1))), .int .i64 c], .string (S x), .bool true]) ∧ Below w.heap.size w w' := by
  obtain ⟨hil, hi10, hno⟩ := idx_some hi
  have HNO := Lib.hid hno
  have HX := Lib.hid hx
  have h10 : (bAt l i == 10) = true := by rw [bAt_is hil hi10]; decide
  have HT := Lib.hid h10
  clear hno hi hx hi10 h10
  have hix := fun (w : World) (i : Int) (h0 : 0 ≤ i) (h1 : i < l.length) => run_index_S (P := Try.prog) w 9 l .i64 i Try.underlying9 h0 h1
  go_enter Try.func18, Try.ntmps18
  go_wp2
  go_loop [5] (fun v => ∃ k : Nat, k ≤ i ∧ v = .int .i64 k) (fun v => l.length - (intOf v).toNat)
  case atStart => exact ⟨0, Nat.zero_le _, rfl⟩
  case round =>
    obtain ⟨k, hk, rfl⟩ := hrel
    by_cases hlt : k < i
    · have h5 : (bAt l k == 10) = false := by have := bAt_ne (show k < l.length by omega) (HNO.out k hlt); simpa using this
      go_wp2
      go_round
      case rel => exact ⟨k + 1, by omega, by go_num⟩
      case measure => simp [intOf]; omega
    · obtain rfl : k = i := by omega
      have h10 := HT.out
      obtain ⟨y, hy, hyl⟩ : ∃ y, l.take k = y ∧ y.length = k := ⟨_, rfl, by simp; omega⟩
      have hiy := fun (w : World) (i : Int) (h0 : 0 ≤ i) (h1 : i < y.length) => run_index_S (P := Try.prog) w 9 y .i64 i Try.underlying9 h0 h1
      clear hlt
      by_cases hk0 : k = 0
      · have e : x = [] := by rw [← HX.out, hk0, List.take_zero]; rfl
        have hg : decide ((0 : Int) < (k : Int)) = false := by simp; omega
        subst hk0
        have e2 : y = [] := by rw [← hy]; rfl
        subst e
        subst e2
        clear hyl hy
        go_wp2
        go_region
        go_wp2
        exact bodyPost_ret (v := .tuple #[.agg #[.string (S (l.drop (0 + 1))), .int .i64 c], .string (S []), .bool true]) (by simp [results, Try.results18, go_sem, *]) rfl ⟨rfl, by (repeat (first | exact Below.refl _ _ | assumption | refine Below.drew ?_ | refine Below.alloc ?_ (by first | omega | (simp <;> omega)) _ | refine Below.setCell ?_ (by first | omega | (simp <;> omega)) _))⟩
      · have hk1 : 0 < k := by omega
        have ey : bAt y (k - 1) = bAt l (k - 1) := by rw [← hy]; unfold bAt; simp [List.getD, List.getElem?_take_of_lt (show k - 1 < k by omega)]
        by_cases h13 : l[k - 1]'(by omega) = 13
        · have e : x = l.take (k - 1) := by rw [← HX.out]; exact cut13_yes hk1 (by omega) h13
          have e13 : (bAt y (k - 1) == 13) = true := by rw [ey, bAt_is (by omega) h13]; decide
          have et : y.take (k - 1) = x := by rw [e, ← hy, List.take_take]; congr 1; omega
          have HE := Lib.hid e
          clear e ey h13
          go_wp2
          go_region
          go_wp2
          exact bodyPost_ret (v := .tuple #[.agg #[.string (S (l.drop (k + 1))), .int .i64 c], .string (S x), .bool true]) (by simp [results, Try.results18, go_sem, *]) rfl ⟨rfl, by (repeat (first | exact Below.refl _ _ | assumption | refine Below.drew ?_ | refine Below.alloc ?_ (by first | omega | (simp <;> omega)) _ | refine Below.setCell ?_ (by first | omega | (simp <;> omega)) _))⟩
        · have e : x = y := by rw [← HX.out, ← hy]; exact cut13_no hk1 (by omega) h13
          have e13 : (bAt y (k - 1) == 13) = false := by rw [ey]; have := bAt_ne (show k - 1 < l.length by omega) h13; simpa using this
          subst e
          clear ey h13
          go_wp2
          go_region
          go_wp2
          exact bodyPost_ret (v := .tuple #[.agg #[.string (S (l.drop (k + 1))), .int .i64 c], .string (S x), .bool true]) (by simp [results, Try.results18, go_sem, *]) rfl ⟨rfl, by (repeat (first | exact Below.refl _ _ | assumption | refine Below.drew ?_ | refine Below.alloc ?_ (by first | omega | (simp <;> omega)) _ | refine Below.setCell ?_ (by first | omega | (simp <;> omega)) _))⟩
end Go.Proofs.Ytfkojlfbdongpaa
