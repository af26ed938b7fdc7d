/- Walks of the queue's functions. -/
import Derived.Test.YtfkojlfbdongpaaBase
import Derived.Test.YtfkojlfbdongpaaRows
namespace Go.Proofs.Ytfkojlfbdongpaa
open Go.RowKit
set_option linter.unusedVariables false

def rightB (s : ByteArray) (c : Int) : Bool := decide (1 ≤ c ∧ c ≤ 65536 ∧ s.size ≤ c)

set_option maxHeartbeats 400000 in
theorem right_any (s : ByteArray) (c : Int) (w : World) : Calls Try.prog 11 #[.agg #[.string s, .int .i64 c]] w fun e w' =>
    e = .returned (.bool (rightB s c)) ∧ Below w.heap.size w w' := by
  go_enter Try.func11, Try.ntmps11
  go_wp2
  all_goals
    go_ret
    exact ⟨ret_bool (by unfold rightB; apply dec_eq; simp; try omega), by (repeat (first | exact Below.refl _ _ | assumption | refine Below.drew ?_ | refine Below.alloc ?_ (by first | omega | (simp <;> omega)) _ | refine Below.setCell ?_ (by first | omega | (simp <;> omega)) _))⟩

theorem ref_right_any (s : ByteArray) (c : Int) (w : World) : Calls Try.prog 10 #[.agg #[.string s, .int .i64 c]] w fun e w' =>
    e = .returned (.bool (rightB s c)) ∧ Below w.heap.size w w' := by
  go_enter Try.func10, Try.ntmps10
  go_wp2
  all_goals
    go_ret
    exact ⟨ret_bool (by unfold rightB; apply dec_eq; simp; try omega), by (repeat (first | exact Below.refl _ _ | assumption | refine Below.drew ?_ | refine Below.alloc ?_ (by first | omega | (simp <;> omega)) _ | refine Below.setCell ?_ (by first | omega | (simp <;> omega)) _))⟩

def roomI (s : ByteArray) (c : Int) : Int := if rightB s c then c - s.size else 0

theorem rightB_true {s : ByteArray} {c : Int} (h : rightB s c = true) : 1 ≤ c ∧ c ≤ 65536 ∧ s.size ≤ c := by simpa [rightB] using h

set_option maxHeartbeats 400000 in
theorem room_any (s : ByteArray) (c : Int) (w : World) : Calls Try.prog 12 #[.agg #[.string s, .int .i64 c]] w fun e w' =>
    e = .returned (.int .i64 (roomI s c)) ∧ Below w.heap.size w w' := by
  cases h : rightB s c
  · have H := Lib.hid h
    go_enter Try.func12, Try.ntmps12
    go_wp2_with fail
    refine Calls.mono (right_any _ _ _) ?_
    rintro e w1 ⟨rfl, hb_w1⟩
    have hz_w1 := hb_w1.size
    try simp at hz_w1
    obtain ⟨c_w1_w_0, f_w1_w_0⟩ := bk hb_w1 (w.heap.size) (by first | omega | (simp <;> omega))
    have c_w1_w_0_0 := c_w1_w_0 0
    conv at c_w1_w_0_0 => rhs; simp [go_sem, *]
    have f_w1_w_0_0 := f_w1_w_0 0
    conv at f_w1_w_0_0 => rhs; simp [go_sem, *]
    have c_w1_w_0_1 := c_w1_w_0 1
    conv at c_w1_w_0_1 => rhs; simp [go_sem, *]
    have f_w1_w_0_1 := f_w1_w_0 1
    conv at f_w1_w_0_1 => rhs; simp [go_sem, *]
    have hB_w1 : Below w.heap.size w w1 := Below.trans (by (repeat (first | exact Below.refl _ _ | assumption | refine Below.drew ?_ | refine Below.alloc ?_ (by first | omega | (simp <;> omega)) _ | refine Below.setCell ?_ (by first | omega | (simp <;> omega)) _))) (hb_w1.mono (by first | omega | (simp <;> omega)))
    clear hb_w1 c_w1_w_0 f_w1_w_0
    have far_w1_w_0 := far (show w.heap.size < w1.heap.size by omega)
    go_wp2
    go_ret
    exact ⟨ret_int (by unfold roomI; rw [H.out]; rfl), by (repeat (first | exact Below.refl _ _ | assumption | refine Below.drew ?_ | refine Below.alloc ?_ (by first | omega | (simp <;> omega)) _ | refine Below.setCell ?_ (by first | omega | (simp <;> omega)) _))⟩
  · obtain ⟨h1, h2, h3⟩ := rightB_true h
    have H := Lib.hid h
    go_enter Try.func12, Try.ntmps12
    go_wp2_with fail
    refine Calls.mono (right_any _ _ _) ?_
    rintro e w1 ⟨rfl, hb_w1⟩
    have hz_w1 := hb_w1.size
    try simp at hz_w1
    obtain ⟨c_w1_w_0, f_w1_w_0⟩ := bk hb_w1 (w.heap.size) (by first | omega | (simp <;> omega))
    have c_w1_w_0_0 := c_w1_w_0 0
    conv at c_w1_w_0_0 => rhs; simp [go_sem, *]
    have f_w1_w_0_0 := f_w1_w_0 0
    conv at f_w1_w_0_0 => rhs; simp [go_sem, *]
    have c_w1_w_0_1 := c_w1_w_0 1
    conv at c_w1_w_0_1 => rhs; simp [go_sem, *]
    have f_w1_w_0_1 := f_w1_w_0 1
    conv at f_w1_w_0_1 => rhs; simp [go_sem, *]
    have hB_w1 : Below w.heap.size w w1 := Below.trans (by (repeat (first | exact Below.refl _ _ | assumption | refine Below.drew ?_ | refine Below.alloc ?_ (by first | omega | (simp <;> omega)) _ | refine Below.setCell ?_ (by first | omega | (simp <;> omega)) _))) (hb_w1.mono (by first | omega | (simp <;> omega)))
    clear hb_w1 c_w1_w_0 f_w1_w_0
    have far_w1_w_0 := far (show w.heap.size < w1.heap.size by omega)
    go_wp2
    go_ret
    exact ⟨ret_int (by unfold roomI; rw [H.out]; rfl), by (repeat (first | exact Below.refl _ _ | assumption | refine Below.drew ?_ | refine Below.alloc ?_ (by first | omega | (simp <;> omega)) _ | refine Below.setCell ?_ (by first | omega | (simp <;> omega)) _))⟩

set_option maxHeartbeats 400000 in
theorem put_no (s t : ByteArray) (c : Int) (w : World) (h : rightB s c = false) : Calls Try.prog 14 #[.agg #[.string s, .int .i64 c], .string t] w fun e w' =>
    e = .returned (.tuple #[.agg #[.string ⟨#[]⟩, .int .i64 0], .int .i64 0, .int .i64 1]) ∧ Below w.heap.size w w' := by
  go_enter Try.func14, Try.ntmps14
  go_wp2_with fail
  refine Calls.mono (right_any _ _ _) ?_
  rintro e w1 ⟨rfl, hb_w1⟩
  have hz_w1 := hb_w1.size
  try simp at hz_w1
  obtain ⟨c_w1_w_0, f_w1_w_0⟩ := bk hb_w1 (w.heap.size) (by first | omega | (simp <;> omega))
  have c_w1_w_0_0 := c_w1_w_0 0
  conv at c_w1_w_0_0 => rhs; simp [go_sem, *]
  have f_w1_w_0_0 := f_w1_w_0 0
  conv at f_w1_w_0_0 => rhs; simp [go_sem, *]
  have c_w1_w_0_1 := c_w1_w_0 1
  conv at c_w1_w_0_1 => rhs; simp [go_sem, *]
  have f_w1_w_0_1 := f_w1_w_0 1
  conv at f_w1_w_0_1 => rhs; simp [go_sem, *]
  obtain ⟨c_w1_w_1, f_w1_w_1⟩ := bk hb_w1 (w.heap.size + 1) (by first | omega | (simp <;> omega))
  have c_w1_w_1_0 := c_w1_w_1 0
  conv at c_w1_w_1_0 => rhs; simp [go_sem, *]
  have f_w1_w_1_0 := f_w1_w_1 0
  conv at f_w1_w_1_0 => rhs; simp [go_sem, *]
  have c_w1_w_1_1 := c_w1_w_1 1
  conv at c_w1_w_1_1 => rhs; simp [go_sem, *]
  have f_w1_w_1_1 := f_w1_w_1 1
  conv at f_w1_w_1_1 => rhs; simp [go_sem, *]
  have hB_w1 : Below w.heap.size w w1 := Below.trans (by (repeat (first | exact Below.refl _ _ | assumption | refine Below.drew ?_ | refine Below.alloc ?_ (by first | omega | (simp <;> omega)) _ | refine Below.setCell ?_ (by first | omega | (simp <;> omega)) _))) (hb_w1.mono (by first | omega | (simp <;> omega)))
  clear hb_w1 c_w1_w_0 f_w1_w_0 c_w1_w_1 f_w1_w_1
  have far_w1_w_0 := far (show w.heap.size < w1.heap.size by omega)
  have far_w1_w_1 := far (show w.heap.size + 1 < w1.heap.size by omega)
  go_wp2
  exact bodyPost_ret (v := .tuple #[.agg #[.string ⟨#[]⟩, .int .i64 0], .int .i64 0, .int .i64 1]) (by simp [results, Try.results14, go_sem, *]) rfl ⟨rfl, by (repeat (first | exact Below.refl _ _ | assumption | refine Below.drew ?_ | refine Below.alloc ?_ (by first | omega | (simp <;> omega)) _ | refine Below.setCell ?_ (by first | omega | (simp <;> omega)) _))⟩

set_option maxHeartbeats 400000 in
theorem put_yes (s t : ByteArray) (c : Int) (w : World) (hs : s.size ≤ maxLen) (ht : t.size ≤ maxLen) (h : rightB s c = true) : Calls Try.prog 14 #[.agg #[.string s, .int .i64 c], .string t] w fun e w' =>
    e = .returned (.tuple #[.agg #[.string (s ++ t.extract 0 (min t.size (roomI s c).toNat)), .int .i64 c], .int .i64 (min (t.size : Int) (roomI s c)), .int .i64 0]) ∧ Below w.heap.size w w' := by
  obtain ⟨h1, h2, h3⟩ := rightB_true h
  have hr0 : 0 ≤ roomI s c := by unfold roomI; rw [h]; simp; omega
  have hr1 : roomI s c ≤ 65536 := by unfold roomI; rw [h]; simp; omega
  have H := Lib.hid h
  generalize hr : roomI s c = r at *
  have Hr := Lib.hid hr
  clear hr
  unfold maxLen at hs ht
  go_enter Try.func14, Try.ntmps14
  go_wp2_with fail
  refine Calls.mono (right_any _ _ _) ?_
  rintro e w1 ⟨rfl, hb_w1⟩
  have hz_w1 := hb_w1.size
  try simp at hz_w1
  obtain ⟨c_w1_w_0, f_w1_w_0⟩ := bk hb_w1 (w.heap.size) (by first | omega | (simp <;> omega))
  have c_w1_w_0_0 := c_w1_w_0 0
  conv at c_w1_w_0_0 => rhs; simp [go_sem, *]
  have f_w1_w_0_0 := f_w1_w_0 0
  conv at f_w1_w_0_0 => rhs; simp [go_sem, *]
  have c_w1_w_0_1 := c_w1_w_0 1
  conv at c_w1_w_0_1 => rhs; simp [go_sem, *]
  have f_w1_w_0_1 := f_w1_w_0 1
  conv at f_w1_w_0_1 => rhs; simp [go_sem, *]
  obtain ⟨c_w1_w_1, f_w1_w_1⟩ := bk hb_w1 (w.heap.size + 1) (by first | omega | (simp <;> omega))
  have c_w1_w_1_0 := c_w1_w_1 0
  conv at c_w1_w_1_0 => rhs; simp [go_sem, *]
  have f_w1_w_1_0 := f_w1_w_1 0
  conv at f_w1_w_1_0 => rhs; simp [go_sem, *]
  have c_w1_w_1_1 := c_w1_w_1 1
  conv at c_w1_w_1_1 => rhs; simp [go_sem, *]
  have f_w1_w_1_1 := f_w1_w_1 1
  conv at f_w1_w_1_1 => rhs; simp [go_sem, *]
  have hB_w1 : Below w.heap.size w w1 := Below.trans (by (repeat (first | exact Below.refl _ _ | assumption | refine Below.drew ?_ | refine Below.alloc ?_ (by first | omega | (simp <;> omega)) _ | refine Below.setCell ?_ (by first | omega | (simp <;> omega)) _))) (hb_w1.mono (by first | omega | (simp <;> omega)))
  clear hb_w1 c_w1_w_0 f_w1_w_0 c_w1_w_1 f_w1_w_1
  have far_w1_w_0 := far (show w.heap.size < w1.heap.size by omega)
  have far_w1_w_1 := far (show w.heap.size + 1 < w1.heap.size by omega)
  go_wp2_with fail
  refine Calls.mono (room_any _ _ _) ?_
  rintro e w2 ⟨rfl, hb_w2⟩
  have hz_w2 := hb_w2.size
  try simp at hz_w2
  obtain ⟨c_w2_w_0, f_w2_w_0⟩ := bk hb_w2 (w.heap.size) (by first | omega | (simp <;> omega))
  have c_w2_w_0_0 := c_w2_w_0 0
  conv at c_w2_w_0_0 => rhs; simp [go_sem, *]
  have f_w2_w_0_0 := f_w2_w_0 0
  conv at f_w2_w_0_0 => rhs; simp [go_sem, *]
  have c_w2_w_0_1 := c_w2_w_0 1
  conv at c_w2_w_0_1 => rhs; simp [go_sem, *]
  have f_w2_w_0_1 := f_w2_w_0 1
  conv at f_w2_w_0_1 => rhs; simp [go_sem, *]
  obtain ⟨c_w2_w_1, f_w2_w_1⟩ := bk hb_w2 (w.heap.size + 1) (by first | omega | (simp <;> omega))
  have c_w2_w_1_0 := c_w2_w_1 0
  conv at c_w2_w_1_0 => rhs; simp [go_sem, *]
  have f_w2_w_1_0 := f_w2_w_1 0
  conv at f_w2_w_1_0 => rhs; simp [go_sem, *]
  have c_w2_w_1_1 := c_w2_w_1 1
  conv at c_w2_w_1_1 => rhs; simp [go_sem, *]
  have f_w2_w_1_1 := f_w2_w_1 1
  conv at f_w2_w_1_1 => rhs; simp [go_sem, *]
  have hB_w2 : Below w.heap.size w w2 := Below.trans (by (repeat (first | exact Below.refl _ _ | assumption | refine Below.drew ?_ | refine Below.alloc ?_ (by first | omega | (simp <;> omega)) _ | refine Below.setCell ?_ (by first | omega | (simp <;> omega)) _))) (hb_w2.mono (by first | omega | (simp <;> omega)))
  clear hb_w2 c_w2_w_0 f_w2_w_0 c_w2_w_1 f_w2_w_1
  try clear c_w1_w_0_0
  try clear f_w1_w_0_0
  try clear c_w1_w_0_1
  try clear f_w1_w_0_1
  try clear c_w1_w_1_0
  try clear f_w1_w_1_0
  try clear c_w1_w_1_1
  try clear f_w1_w_1_1
  try clear far_w1_w_0
  try clear far_w1_w_1
  try clear hB_w1
  have far_w2_w_0 := far (show w.heap.size < w2.heap.size by omega)
  have far_w2_w_1 := far (show w.heap.size + 1 < w2.heap.size by omega)
  rw [Hr.out]
  go_wp2_with fail
  · go_region
    go_wp2
    have e1 : min t.size r.toNat = r.toNat := by omega
    have e2 : min (t.size : Int) r = r := by omega
    exact bodyPost_ret (v := .tuple #[.agg #[.string (s ++ t.extract 0 r.toNat), .int .i64 c], .int .i64 r, .int .i64 0]) (by simp [results, Try.results14, go_sem, *]) rfl ⟨by rw [e1, e2], by (repeat (first | exact Below.refl _ _ | assumption | refine Below.drew ?_ | refine Below.alloc ?_ (by first | omega | (simp <;> omega)) _ | refine Below.setCell ?_ (by first | omega | (simp <;> omega)) _))⟩
  · go_region
    go_wp2
    have e1 : min t.size r.toNat = t.size := by omega
    have e2 : min (t.size : Int) r = t.size := by omega
    exact bodyPost_ret (v := .tuple #[.agg #[.string (s ++ t), .int .i64 c], .int .i64 t.size, .int .i64 0]) (by simp [results, Try.results14, go_sem, *]) rfl ⟨by rw [e1, e2, ByteArray.extract_zero_size], by (repeat (first | exact Below.refl _ _ | assumption | refine Below.drew ?_ | refine Below.alloc ?_ (by first | omega | (simp <;> omega)) _ | refine Below.setCell ?_ (by first | omega | (simp <;> omega)) _))⟩

set_option maxHeartbeats 400000 in
theorem new_bad (n : Int) (w : World) (h : n < 1 ∨ 65536 < n) : Calls Try.prog 9 #[.int .i64 n] w fun e w' =>
    e = .returned (.tuple #[.agg #[.string ⟨#[]⟩, .int .i64 0], .int .i64 1]) ∧ Below w.heap.size w w' := by
  rcases h with h | h
  all_goals
    go_enter Try.func9, Try.ntmps9
    go_wp2
    exact bodyPost_ret (v := .tuple #[.agg #[.string ⟨#[]⟩, .int .i64 0], .int .i64 1]) (by simp [results, Try.results9, go_sem]) rfl ⟨rfl, by (repeat (first | exact Below.refl _ _ | assumption | refine Below.drew ?_ | refine Below.alloc ?_ (by first | omega | (simp <;> omega)) _ | refine Below.setCell ?_ (by first | omega | (simp <;> omega)) _))⟩

set_option maxHeartbeats 400000 in
theorem new_ok (n : Int) (w : World) (h : 1 ≤ n) (h' : n ≤ 65536) : Calls Try.prog 9 #[.int .i64 n] w fun e w' =>
    e = .returned (.tuple #[.agg #[.string ⟨#[]⟩, .int .i64 n], .int .i64 0]) ∧ Below w.heap.size w w' := by
  go_enter Try.func9, Try.ntmps9
  go_wp2
  exact bodyPost_ret (v := .tuple #[.agg #[.string ⟨#[]⟩, .int .i64 n], .int .i64 0]) (by simp [results, Try.results9, go_sem]) rfl ⟨rfl, by (repeat (first | exact Below.refl _ _ | assumption | refine Below.drew ?_ | refine Below.alloc ?_ (by first | omega | (simp <;> omega)) _ | refine Below.setCell ?_ (by first | omega | (simp <;> omega)) _))⟩

def fewS (s : ByteArray) : ByteArray := s.extract 0 (min s.size 70000)
theorem fewS_size (s : ByteArray) : (fewS s).size = min s.size 70000 := by simp [fewS]

set_option maxHeartbeats 400000 in
theorem few_any (s : ByteArray) (c : Int) (w : World) (hs : s.size ≤ maxLen) : Calls Try.prog 8 #[.agg #[.string s, .int .i64 c]] w fun e w' =>
    e = .returned (.agg #[.string (fewS s), .int .i64 c]) ∧ Below w.heap.size w w' := by
  unfold maxLen at hs
  unfold fewS
  go_enter Try.func8, Try.ntmps8
  go_wp2
  · have e1 : min s.size 70000 = 70000 := by omega
    exact bodyPost_ret (v := .agg #[.string (s.extract 0 70000), .int .i64 c]) (by simp [results, Try.results8, go_sem]) rfl ⟨by rw [e1], by (repeat (first | exact Below.refl _ _ | assumption | refine Below.drew ?_ | refine Below.alloc ?_ (by first | omega | (simp <;> omega)) _ | refine Below.setCell ?_ (by first | omega | (simp <;> omega)) _))⟩
  · have e1 : min s.size 70000 = s.size := by omega
    exact bodyPost_ret (v := .agg #[.string s, .int .i64 c]) (by simp [results, Try.results8, go_sem]) rfl ⟨by rw [e1, ByteArray.extract_zero_size], by (repeat (first | exact Below.refl _ _ | assumption | refine Below.drew ?_ | refine Below.alloc ?_ (by first | omega | (simp <;> omega)) _ | refine Below.setCell ?_ (by first | omega | (simp <;> omega)) _))⟩

theorem put_abcd (w : World) : Calls Try.prog 14 #[.agg #[.string ⟨#[]⟩, .int .i64 3], .string ⟨#[97, 98, 99, 100]⟩] w fun e w' =>
    e = .returned (.tuple #[.agg #[.string ⟨#[97, 98, 99]⟩, .int .i64 3], .int .i64 3, .int .i64 0]) ∧ Below w.heap.size w w' :=
  (put_yes ⟨#[]⟩ ⟨#[97, 98, 99, 100]⟩ 3 w (by decide) (by decide) (by decide)).mono fun e w' ⟨he, hb⟩ => ⟨he.trans (by rfl), hb⟩

set_option maxHeartbeats 400000 in
theorem alive_any (w : World) : Calls Try.prog 13 #[] w fun e w' => e = .returned (.bool true) ∧ Below w.heap.size w w' := by
  go_enter Try.func13, Try.ntmps13
  go_wp2_with fail
  refine Calls.mono (new_ok _ _ (by decide) (by decide)) ?_
  rintro e w1 ⟨rfl, hb_w1⟩
  have hz_w1 := hb_w1.size
  try simp at hz_w1
  have hB_w1 : Below w.heap.size w w1 := Below.trans (by (repeat (first | exact Below.refl _ _ | assumption | refine Below.drew ?_ | refine Below.alloc ?_ (by first | omega | (simp <;> omega)) _ | refine Below.setCell ?_ (by first | omega | (simp <;> omega)) _))) (hb_w1.mono (by first | omega | (simp <;> omega)))
  clear hb_w1
  go_wp2_with fail
  refine Calls.mono (put_abcd _) ?_
  rintro e w2 ⟨rfl, hb_w2⟩
  have hz_w2 := hb_w2.size
  try simp at hz_w2
  have hB_w2 : Below w.heap.size w w2 := Below.trans (by (repeat (first | exact Below.refl _ _ | assumption | refine Below.drew ?_ | refine Below.alloc ?_ (by first | omega | (simp <;> omega)) _ | refine Below.setCell ?_ (by first | omega | (simp <;> omega)) _))) (hb_w2.mono (by first | omega | (simp <;> omega)))
  clear hb_w2
  try clear hB_w1
  go_wp2
  go_ret
  exact ⟨rfl, by (repeat (first | exact Below.refl _ _ | assumption | refine Below.drew ?_ | refine Below.alloc ?_ (by first | omega | (simp <;> omega)) _ | refine Below.setCell ?_ (by first | omega | (simp <;> omega)) _))⟩
end Go.Proofs.Ytfkojlfbdongpaa
