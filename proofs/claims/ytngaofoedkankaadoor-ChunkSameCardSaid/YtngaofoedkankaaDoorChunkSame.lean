/- The law ChunkSame: its walk. -/
import Derived.Test.YtngaofoedkankaaDoorChunkLaw
namespace Go.Proofs.YtngaofoedkankaaDoor
open Go.RowKit Go.Sort Go.Shelf
set_option linter.unusedVariables false
set_option linter.unusedSimpArgs false

def sameEnd : List UInt8 := [48, 59, 97, 61, 98, 13, 10, 116, 58, 32, 49, 10, 117, 58, 32, 50, 13, 10, 13, 10]
theorem run_same (sz : Nat) : runC (ck0 sz) sameEnd = .inr ({ ck0 sz with st := 4 }, [], 20) := by
  have e1 : sameEnd = [48, 59, 97, 61, 98, 13] ++ 10 :: ([116, 58, 32, 49] ++ 10 :: ([117, 58, 32, 50, 13] ++ 10 :: (13 :: 10 :: []))) := rfl
  rw [e1, run_last sz [48, 59, 97, 61, 98, 13] _ (by decide) (by decide) (by decide), run_behind sz [116, 58, 32, 49] _ (by decide) (by decide) (by decide), run_behind sz [117, 58, 32, 50, 13] _ (by decide) (by decide) (by decide), run_empty]
  rfl
set_option maxHeartbeats 12800000 in
set_option maxRecDepth 100000 in
theorem chunkSame_any (a : ByteArray) (cut : Int) (w : World) (h1 : a.size ≤ maxLen) (h2 : (Lit.int .i64 cut).wf) (hL : Laid w) :
    Calls Tryd.prog 6 #[.string a, .int .i64 cut] w fun e w' => e = .returned (.bool true) ∧ Below w.heap.size w w' := by
  obtain ⟨l0, rfl⟩ := S_of a
  have hm : maxLen = 9223372036854775807 := rfl
  rw [S_size, hm] at h1
  obtain ⟨p, hp, hp1, hp2⟩ : ∃ k : Nat, min (l0.length : Int) 1000 = k ∧ k ≤ l0.length ∧ k ≤ 1000 := ⟨min l0.length 1000, by omega, by omega, by omega⟩
  obtain ⟨s, hs⟩ : ∃ s, l0.take p = s := ⟨_, rfl⟩
  have hsl : s.length ≤ 1000 := by rw [← hs, List.length_take]; omega
  have hs2 : (l0.take p).drop 0 = s := hs
  obtain ⟨q, hq, hq1⟩ : ∃ k : Nat, min (max cut 0) (s.length : Int) = k ∧ k ≤ s.length := ⟨(min (max cut 0) (s.length : Int)).toNat, by omega, by omega⟩
  obtain ⟨x, hx⟩ : ∃ x, s.take q = x := ⟨_, rfl⟩
  obtain ⟨y, hy⟩ : ∃ y, s.drop q = y := ⟨_, rfl⟩
  have hx2 : (s.take q).drop 0 = x := hx
  have hxy : x ++ y = s := by rw [← hx, ← hy, List.take_append_drop]
  have hxl : x.length ≤ 1000 := by rw [← hxy, List.length_append] at hsl; omega
  have hyl : y.length ≤ 1000 := by rw [← hxy, List.length_append] at hsl; omega
  have hsI : (s.length : Int) ≤ 1000 := by omega
  have hqI : (q : Int) ≤ (s.length : Int) := by omega
  have EN := Lib.hid (fun (z : List UInt8) (hz : z.length ≤ 1000000) W (hb : Below w.heap.size w W) => ckEncode z hz W (hL.on hb))
  have ET := Lib.hid (fun W => ckEndText W)
  have r1 : runC (ck0 0) (encL s ++ endL) = .inr ({ ck0 s.length with st := 4 }, s, (encL s).length + 5) := by
    have := run_enc' 0 s (endL ++ []) (by omega)
    rw [List.append_nil, Nat.zero_add] at this
    rw [this]
    have e2 := run_end s.length []
    rw [List.append_nil] at e2
    rw [e2]; simp [thenC]
  have r2 : runC (ck0 0) (encL x ++ (encL y ++ sameEnd)) = .inr ({ ck0 s.length with st := 4 }, s, (encL x).length + ((encL y).length + 20)) := by
    rw [run_enc' 0 x _ (by omega), run_enc' _ y _ (by omega), run_same, Nat.zero_add, ← List.length_append, hxy]
    simp [thenC, hxy]
  have F1 := Lib.hid (fun (t : List UInt8) (h : t = encL s ++ endL) W => (show Calls Tryd.prog 10 #[.agg #[.int .i64 0, .string (S []), .int .i64 0, .int .i64 0], .string (S t)] W (fun e w' => e = .returned (.tuple #[.agg #[.int .i64 4, .string (S []), .int .i64 0, .int .i64 s.length], .string (S s), .int .i64 ((encL s).length + 5 : Nat), .int .i64 0]) ∧ Below W.heap.size W w') from by
    have hl : t.length ≤ 100000 := by rw [h, List.length_append]; have := enc_le s; have : endL.length = 5 := rfl; omega
    have := feed0 t hl W
    rw [h, r1, feedV_done] at this
    rw [h]; exact this))
  have F2 := Lib.hid (fun (t : List UInt8) (h : t = encL x ++ (encL y ++ sameEnd)) W => (show Calls Tryd.prog 10 #[.agg #[.int .i64 0, .string (S []), .int .i64 0, .int .i64 0], .string (S t)] W (fun e w' => e = .returned (.tuple #[.agg #[.int .i64 4, .string (S []), .int .i64 0, .int .i64 s.length], .string (S s), .int .i64 ((encL x).length + ((encL y).length + 20) : Nat), .int .i64 0]) ∧ Below W.heap.size W w') from by
    have hl : t.length ≤ 100000 := by rw [h]; simp only [List.length_append]; have := enc_le x; have := enc_le y; have : sameEnd.length = 20 := rfl; omega
    have := feed0 t hl W
    rw [h, r2, feedV_done] at this
    rw [h]; exact this))
  have E1 := Lib.hid (fun W hb => EN.out s (by omega) W hb)
  have E2 := Lib.hid (fun W hb => EN.out x (by omega) W hb)
  have E3 := Lib.hid (fun W hb => EN.out y (by omega) W hb)
  have hl1 := enc_le s
  have hl2 := enc_le x
  have hl3 := enc_le y
  obtain ⟨es, hes⟩ : ∃ z, encL s = z := ⟨_, rfl⟩
  obtain ⟨ex, hex⟩ : ∃ z, encL x = z := ⟨_, rfl⟩
  obtain ⟨ey, hey⟩ : ∃ z, encL y = z := ⟨_, rfl⟩
  rw [hes] at E1 F1 hl1
  rw [hex] at E2 F2 hl2
  rw [hey] at E3 F2 hl3
  unfold endL at ET F1
  unfold sameEnd at F2
  have AL := Lib.hid (fun W => ck_alive W)
  have g1 : (es.length : Int) ≤ 2000 := by omega
  have g2 : (ex.length : Int) ≤ 2000 := by omega
  have g3 : (ey.length : Int) ≤ 2000 := by omega
  clear EN hes hex hey r1 r2 hL hs hx hxy hm h2
  go_enter Tryd.func6, Tryd.ntmps6
  go_wp2_with (first
    | (go_at_call 12; (with_reducible refine Calls.mono (E1.out _ (Below.refl _ _)) ?_); rintro e w1 ⟨rfl, hb1⟩; have HB1 := Lib.hid hb1; have hz1 := hb1.size; clear hb1)
    | (go_at_call 13; refine Calls.mono (ET.out _) ?_; rintro e w' ⟨rfl, hw'⟩; obtain rfl := hw'.symm)
    | (go_at_call 10; (with_reducible refine Calls.mono (F1.out _ ?_ _) ?_); (focus (simp)); rintro e w2 ⟨rfl, hb2⟩; have HB2 := Lib.hid (HB1.out.trans (hb2.mono HB1.out.size)); have hz2 := hb2.size; clear hb2)
    | fail)
  clear F1 E1 ET
  go_upto_region 4 with fail
  go_cut [9, 10, 12] (fun pv dv ev wx => ∃ g, pv = .pointer (some ⟨g, 0, none⟩) ∧ dv = .string (S s) ∧ ev = .int .i64 0 ∧ g < wx.heap.size ∧ wx.cell? ⟨g, 0, none⟩ = some (.int .i64 4) ∧ wx.cell? ⟨g, 1, none⟩ = some (.string (S [])) ∧ wx.cell? ⟨g, 2, none⟩ = some (.int .i64 0) ∧ wx.cell? ⟨g, 3, none⟩ = some (.int .i64 s.length) ∧ w2.heap.size < wx.heap.size ∧ wx.cell? ⟨w2.heap.size, 0, none⟩ = some (.int .i64 4) ∧ wx.cell? ⟨w2.heap.size, 1, none⟩ = some (.string (S [])) ∧ wx.cell? ⟨w2.heap.size, 2, none⟩ = some (.int .i64 0) ∧ wx.cell? ⟨w2.heap.size, 3, none⟩ = some (.int .i64 s.length) ∧ Below w.heap.size w wx)
  case first =>
    as_aux_lemma =>
      clear AL
      have hB2 := HB2.out
      go_region_with (first
        | (go_at_call 12; (with_reducible refine Calls.mono (E2.out _ ?_) ?_); (focus (repeat (first | (with_reducible exact Below.refl _ _) | (with_reducible assumption) | (with_reducible refine Below.drew ?_) | (focus ((with_reducible refine Below.setCell ?_ ?_ _); rotate_left; (first | omega | (simp <;> omega)))) | (focus ((with_reducible refine Below.alloc ?_ ?_ _); rotate_left; (first | omega | (simp <;> omega)))) | exact Below.refl _ _ | assumption | refine Below.drew ?_ | refine Below.alloc ?_ (by first | omega | (simp <;> omega)) _ | refine Below.setCell ?_ (by first | omega | (simp <;> omega)) _))); rintro e w3 ⟨rfl, hbw3⟩; obtain ⟨ccw3, ffw3⟩ := bk hbw3 w2.heap.size (by (first | omega | (simp <;> omega))); have hzw3 := hbw3.size; (try simp at hzw3); have fr3 := far (show w2.heap.size < w3.heap.size by omega); have hBw3 : Below w.heap.size w w3 := Below.trans (by (repeat (first | (with_reducible exact Below.refl _ _) | (with_reducible assumption) | (with_reducible refine Below.drew ?_) | (focus ((with_reducible refine Below.setCell ?_ ?_ _); rotate_left; (first | omega | (simp <;> omega)))) | (focus ((with_reducible refine Below.alloc ?_ ?_ _); rotate_left; (first | omega | (simp <;> omega)))) | exact Below.refl _ _ | assumption | refine Below.drew ?_ | refine Below.alloc ?_ (by first | omega | (simp <;> omega)) _ | refine Below.setCell ?_ (by first | omega | (simp <;> omega)) _))) (hbw3.mono (by (first | omega | (simp <;> omega)))); (try (refine keepc hbw3 (w2.heap.size + 1) ?_ ?_; (focus (first | omega | (simp <;> omega))); intro c_w3_0 f_w3_0)); (try (refine keepc hbw3 (w4.heap.size) ?_ ?_; (focus (first | omega | (simp <;> omega))); intro c_w3_1 f_w3_1)); clear hbw3)
        | (go_at_call 12; (with_reducible refine Calls.mono (E3.out _ ?_) ?_); (focus (repeat (first | (with_reducible exact Below.refl _ _) | (with_reducible assumption) | (with_reducible refine Below.drew ?_) | (focus ((with_reducible refine Below.setCell ?_ ?_ _); rotate_left; (first | omega | (simp <;> omega)))) | (focus ((with_reducible refine Below.alloc ?_ ?_ _); rotate_left; (first | omega | (simp <;> omega)))) | exact Below.refl _ _ | assumption | refine Below.drew ?_ | refine Below.alloc ?_ (by first | omega | (simp <;> omega)) _ | refine Below.setCell ?_ (by first | omega | (simp <;> omega)) _))); rintro e w4 ⟨rfl, hbw4⟩; obtain ⟨ccw4, ffw4⟩ := bk hbw4 w2.heap.size (by (first | omega | (simp <;> omega))); have hzw4 := hbw4.size; (try simp at hzw4); have fr4 := far (show w2.heap.size < w4.heap.size by omega); have hBw4 : Below w.heap.size w w4 := Below.trans (by (repeat (first | (with_reducible exact Below.refl _ _) | (with_reducible assumption) | (with_reducible refine Below.drew ?_) | (focus ((with_reducible refine Below.setCell ?_ ?_ _); rotate_left; (first | omega | (simp <;> omega)))) | (focus ((with_reducible refine Below.alloc ?_ ?_ _); rotate_left; (first | omega | (simp <;> omega)))) | exact Below.refl _ _ | assumption | refine Below.drew ?_ | refine Below.alloc ?_ (by first | omega | (simp <;> omega)) _ | refine Below.setCell ?_ (by first | omega | (simp <;> omega)) _))) (hbw4.mono (by (first | omega | (simp <;> omega)))); (try (refine keepc hbw4 (w2.heap.size + 1) ?_ ?_; (focus (first | omega | (simp <;> omega))); intro c_w4_0 f_w4_0)); (try (refine keepc hbw4 (w3.heap.size) ?_ ?_; (focus (first | omega | (simp <;> omega))); intro c_w4_1 f_w4_1)); clear hbw4)
        | (go_at_call 10; (with_reducible refine Calls.mono (F2.out _ ?_ _) ?_); (focus (first | rfl | simp)); rintro e w5 ⟨rfl, hbw5⟩; obtain ⟨ccw5, ffw5⟩ := bk hbw5 w2.heap.size (by (first | omega | (simp <;> omega))); have hzw5 := hbw5.size; (try simp at hzw5); have fr5 := far (show w2.heap.size < w5.heap.size by omega); have hBw5 : Below w.heap.size w w5 := Below.trans (by (repeat (first | (with_reducible exact Below.refl _ _) | (with_reducible assumption) | (with_reducible refine Below.drew ?_) | (focus ((with_reducible refine Below.setCell ?_ ?_ _); rotate_left; (first | omega | (simp <;> omega)))) | (focus ((with_reducible refine Below.alloc ?_ ?_ _); rotate_left; (first | omega | (simp <;> omega)))) | exact Below.refl _ _ | assumption | refine Below.drew ?_ | refine Below.alloc ?_ (by first | omega | (simp <;> omega)) _ | refine Below.setCell ?_ (by first | omega | (simp <;> omega)) _))) (hbw5.mono (by (first | omega | (simp <;> omega)))); (try (refine keepc hbw5 (w2.heap.size + 1) ?_ ?_; (focus (first | omega | (simp <;> omega))); intro c_w5_0 f_w5_0)); (try (refine keepc hbw5 (w3.heap.size) ?_ ?_; (focus (first | omega | (simp <;> omega))); intro c_w5_1 f_w5_1)); (try (refine keepc hbw5 (w4.heap.size) ?_ ?_; (focus (first | omega | (simp <;> omega))); intro c_w5_2 f_w5_2)); clear hbw5)
        | fail)
      all_goals (go_wp2_with fail; go_meet; exact ⟨_, rfl, rfl, rfl, (by simp; (try omega)), (by simp [go_sem, *]), (by simp [go_sem, *]), (by simp [go_sem, *]), (by simp [go_sem, *]), (by simp; omega), (by simp [go_sem, *]), (by simp [go_sem, *]), (by simp [go_sem, *]), (by simp [go_sem, *]), (by (repeat (first | (with_reducible exact Below.refl _ _) | (with_reducible assumption) | (with_reducible refine Below.drew ?_) | (focus ((with_reducible refine Below.setCell ?_ ?_ _); rotate_left; (first | omega | (simp <;> omega)))) | (focus ((with_reducible refine Below.alloc ?_ ?_ _); rotate_left; (first | omega | (simp <;> omega)))) | exact Below.refl _ _ | assumption | refine Below.drew ?_ | refine Below.alloc ?_ (by first | omega | (simp <;> omega)) _ | refine Below.setCell ?_ (by first | omega | (simp <;> omega)) _)))⟩)
  case rest =>
    obtain ⟨g, rfl, rfl, rfl, hg, g0, g1', g2', g3', hlt, d0, d1, d2, d3, hB⟩ := hcut
    obtain ⟨w6, hw6⟩ : ∃ x, x = wc := ⟨_, rfl⟩
    rw [← hw6] at hg g0 g1' g2' g3' hlt d0 d1 d2 d3 hB ⊢
    clear hw6
    obtain ⟨k, hk⟩ : ∃ k, w2.heap.size = k := ⟨_, rfl⟩
    rw [hk] at hlt d0 d1 d2 d3 ⊢
    have fg := far hg
    have fk := far hlt
    have HB6 := Lib.hid hB
    go_wp2_with fail
    refine Calls.mono (AL.out _) ?_
    rintro e w7 ⟨rfl, hb_w7⟩
    have hz_w7 := hb_w7.size
    try simp at hz_w7
    obtain ⟨c_w7_vg, f_w7_vg⟩ := bk hb_w7 (g) (by first | omega | (simp <;> omega))
    have c_w7_vg_0 := c_w7_vg 0
    conv at c_w7_vg_0 => rhs; simp [go_sem, *]
    have f_w7_vg_0 := f_w7_vg 0
    conv at f_w7_vg_0 => rhs; simp [go_sem, *]
    have c_w7_vg_1 := c_w7_vg 1
    conv at c_w7_vg_1 => rhs; simp [go_sem, *]
    have f_w7_vg_1 := f_w7_vg 1
    conv at f_w7_vg_1 => rhs; simp [go_sem, *]
    have c_w7_vg_2 := c_w7_vg 2
    conv at c_w7_vg_2 => rhs; simp [go_sem, *]
    have f_w7_vg_2 := f_w7_vg 2
    conv at f_w7_vg_2 => rhs; simp [go_sem, *]
    have c_w7_vg_3 := c_w7_vg 3
    conv at c_w7_vg_3 => rhs; simp [go_sem, *]
    have f_w7_vg_3 := f_w7_vg 3
    conv at f_w7_vg_3 => rhs; simp [go_sem, *]
    obtain ⟨c_w7_vk, f_w7_vk⟩ := bk hb_w7 (k) (by first | omega | (simp <;> omega))
    have c_w7_vk_0 := c_w7_vk 0
    conv at c_w7_vk_0 => rhs; simp [go_sem, *]
    have f_w7_vk_0 := f_w7_vk 0
    conv at f_w7_vk_0 => rhs; simp [go_sem, *]
    have c_w7_vk_1 := c_w7_vk 1
    conv at c_w7_vk_1 => rhs; simp [go_sem, *]
    have f_w7_vk_1 := f_w7_vk 1
    conv at f_w7_vk_1 => rhs; simp [go_sem, *]
    have c_w7_vk_2 := c_w7_vk 2
    conv at c_w7_vk_2 => rhs; simp [go_sem, *]
    have f_w7_vk_2 := f_w7_vk 2
    conv at f_w7_vk_2 => rhs; simp [go_sem, *]
    have c_w7_vk_3 := c_w7_vk 3
    conv at c_w7_vk_3 => rhs; simp [go_sem, *]
    have f_w7_vk_3 := f_w7_vk 3
    conv at f_w7_vk_3 => rhs; simp [go_sem, *]
    have HH_w7 := Lib.hid hb_w7
    have hB_w7 : Below w6.heap.size w6 w7 := Below.trans (by (repeat (first | (with_reducible exact Below.refl _ _) | (with_reducible assumption) | (with_reducible refine Below.drew ?_) | (focus ((with_reducible refine Below.setCell ?_ ?_ _); rotate_left; (first | omega | (simp <;> omega)))) | (focus ((with_reducible refine Below.alloc ?_ ?_ _); rotate_left; (first | omega | (simp <;> omega)))) | exact Below.refl _ _ | assumption | refine Below.drew ?_ | refine Below.alloc ?_ (by first | omega | (simp <;> omega)) _ | refine Below.setCell ?_ (by first | omega | (simp <;> omega)) _))) (hb_w7.mono (by first | omega | (simp <;> omega)))
    clear hb_w7 c_w7_vg f_w7_vg c_w7_vk f_w7_vk
    have far_w7_vg := far (show g < w7.heap.size by omega)
    have far_w7_vk := far (show k < w7.heap.size by omega)
    go_wp2
    go_ret
    exact ⟨ret_bool (by simp), HB6.out.trans (hB_w7.mono HB6.out.size)⟩
end Go.Proofs.YtngaofoedkankaaDoor
