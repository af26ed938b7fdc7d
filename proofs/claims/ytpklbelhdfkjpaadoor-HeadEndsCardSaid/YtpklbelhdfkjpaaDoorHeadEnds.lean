/- The law HeadEnds: its walk. -/
import Derived.Test.YtpklbelhdfkjpaaDoorHeadLaw
import Derived.Deep.RegionWith
import Derived.Deep.DeepCutAuto
namespace Go.Proofs.YtpklbelhdfkjpaaDoor
open Go.RowKit Go.Sort Go.Shelf
set_option linter.unusedVariables false

set_option maxHeartbeats 3200000 in
set_option maxRecDepth 100000 in
theorem headEnds_any (v : Value) (L : List (List Value)) (b : ByteArray) (w : World) (hv : RowsIn w 2 v L ∧ ∀ c ∈ L, AllSh [.str, .str] c) (k1 : b.size ≤ maxLen) (_hL : True) :
    Calls Tryd.prog 7 #[v, .string b] w fun e w' => e = .returned (.bool true) ∧ Below w.heap.size w w' := by
  obtain ⟨xs, hr0, hxl⟩ := reads_inF hv
  have C0 := Lib.hid (fun W (hb : Below w.heap.size w W) => few v xs W (hr0.below hb) hxl)
  clear hr0 hxl hv
  obtain ⟨T, hT⟩ : ∃ T, fewL xs = T := ⟨_, rfl⟩
  have hTs : ∀ f ∈ T, ShortF f := by rw [← hT]; exact fewL_short xs
  rw [hT] at C0
  obtain ⟨l0, rfl⟩ := S_of b
  rw [S_size] at k1
  have hm : maxLen = 9223372036854775807 := rfl
  rw [hm] at k1
  obtain ⟨k, hk, hk1, hk2⟩ : ∃ k : Nat, min (l0.length : Int) 500 = k ∧ k ≤ l0.length ∧ k ≤ 500 := ⟨min l0.length 500, by omega, by omega, by omega⟩
  obtain ⟨s, hs⟩ : ∃ s, l0.take k = s := ⟨_, rfl⟩
  have hsl : s.length ≤ 500 := by rw [← hs, List.length_take]; omega
  have hs2 : (l0.take k).drop 0 = s := hs
  have CPr := Lib.hid (fun (u : Value) (W : World) (hr : ReadsF W u T) => headPrint_c u T W hr hTs)
  have hplen := Lib.hid (fun h => print_len (L := T) h)
  have E1 := Lib.hid (fun (h : (headPrint T).2 = 0) (hl : (headPrint T).1.length ≤ 3900) => (show headEnd ((headPrint T).1 ++ ([13, 10] ++ s)) = ((headPrint T).1.length + 2, 0) ∧ headEnd ((headPrint T).1 ++ ([10] ++ s)) = ((headPrint T).1.length + 1, 0) ∧ headEnd (headPrint T).1 = (0, 3) from by
    obtain ⟨a, b, c⟩ := print_ok h
    rw [c] at hl ⊢
    exact ⟨head_end a (by omega) [13, 10] s (.inl rfl), head_end a (by omega) [10] s (.inr rfl), head_short a (by omega)⟩))
  obtain ⟨⟨t, e1⟩, hp⟩ : ∃ x, headPrint T = x := ⟨_, rfl⟩
  rw [hp] at CPr hplen E1
  simp only at CPr hplen E1
  have CE := Lib.hid (fun (x : List UInt8) (n : Nat) (e : Int) (hx : headEnd x = (n, e)) (hxl : x.length ≤ 10000) (W : World) => (show Calls Tryd.prog 14 #[.string (S x)] W (fun e' w' => e' = .returned (.tuple #[.int .i64 (n : Int), .int .i64 e]) ∧ Below W.heap.size W w') from by
    have := headEnd_c x (by omega) W
    rw [hx] at this
    exact this))
  clear hT hm hTs hp
  go_enter Tryd.func7, Tryd.ntmps7
  go_upto_region 1 with fail
  go_cut [0, 1] (fun lv sv wx => sv = .string (S s) ∧ ReadsF wx lv T ∧ Below w.heap.size w wx)
  case first =>
    as_aux_lemma =>
      go_region_with (go_at_call 8; refine (C0.out _ (by (repeat (first | (with_reducible exact Below.refl _ _) | (with_reducible assumption) | (with_reducible refine Below.drew ?_) | (focus ((with_reducible refine Below.setCell ?_ ?_ _); rotate_left; (first | omega | (simp <;> omega)))) | (focus ((with_reducible refine Below.alloc ?_ ?_ _); rotate_left; (first | omega | (simp <;> omega)))) | exact Below.refl _ _ | assumption | refine Below.drew ?_ | refine Below.alloc ?_ (by first | omega | (simp <;> omega)) _ | refine Below.setCell ?_ (by first | omega | (simp <;> omega)) _)))).mono ?_; rintro e w1 ⟨v', rfl, hr, hb1⟩; have HB1 := Lib.hid (Below.trans (show Below w.heap.size w _ by (repeat (first | (with_reducible exact Below.refl _ _) | (with_reducible assumption) | (with_reducible refine Below.drew ?_) | (focus ((with_reducible refine Below.setCell ?_ ?_ _); rotate_left; (first | omega | (simp <;> omega)))) | (focus ((with_reducible refine Below.alloc ?_ ?_ _); rotate_left; (first | omega | (simp <;> omega)))) | exact Below.refl _ _ | assumption | refine Below.drew ?_ | refine Below.alloc ?_ (by first | omega | (simp <;> omega)) _ | refine Below.setCell ?_ (by first | omega | (simp <;> omega)) _))) (hb1.mono (by (first | omega | (simp <;> omega))))); have HR := Lib.hid hr; clear hb1)
      all_goals (go_wp2_with fail; go_meet; exact ⟨by simp [go_sem, *], HR.out, HB1.out⟩)
  case rest =>
    obtain ⟨rfl, hr, hb1⟩ := hcut
    obtain ⟨w1, hw1⟩ : ∃ x, x = wc := ⟨_, rfl⟩
    rw [← hw1] at hr hb1 ⊢
    clear hw1
    have HB1 := Lib.hid hb1
    have HR := Lib.hid hr
    obtain ⟨ao, cap, rfl, _⟩ := hr
    have hz1 := HB1.out.size
    clear hb1
    by_cases h1 : e1 = 0
    · subst h1
      by_cases h2 : t.length ≤ 3900
      · have h2i : (t.length : Int) ≤ 3900 := by omega
        obtain ⟨x1, x2, x3⟩ := E1.out rfl h2
        have X1 := Lib.hid (fun (l : List UInt8) (hl : l = t ++ ([13, 10] ++ s)) W => CE.out l _ _ (hl ▸ x1) (by rw [hl]; simp only [List.length_append, List.length_cons, List.length_nil]; omega) W)
        have X2 := Lib.hid (fun (l : List UInt8) (hl : l = t ++ ([10] ++ s)) W => CE.out l _ _ (hl ▸ x2) (by rw [hl]; simp only [List.length_append, List.length_cons, List.length_nil]; omega) W)
        have X3 := Lib.hid (fun W => CE.out t _ _ x3 (by omega) W)
        have g1 : ((t.length + 2 : Nat) : Int) = (t.length : Int) + 2 := by omega
        have g2 : ((t.length + 1 : Nat) : Int) = (t.length : Int) + 1 := by omega
        simp only [g1] at X1
        simp only [g2] at X2
        clear x1 x2 x3 g1 g2
        go_wp2_with fail
        refine Calls.mono (CPr.out _ _ HR.out) ?_
        rintro e w2 ⟨rfl, hb_w2⟩
        have hz_w2 := hb_w2.size
        try simp at hz_w2
        have HH_w2 := Lib.hid hb_w2
        have hB_w2 : Below w1.heap.size w1 w2 := Below.trans (by (repeat (first | (with_reducible exact Below.refl _ _) | (with_reducible assumption) | (with_reducible refine Below.drew ?_) | (focus ((with_reducible refine Below.setCell ?_ ?_ _); rotate_left; (first | omega | (simp <;> omega)))) | (focus ((with_reducible refine Below.alloc ?_ ?_ _); rotate_left; (first | omega | (simp <;> omega)))) | exact Below.refl _ _ | assumption | refine Below.drew ?_ | refine Below.alloc ?_ (by first | omega | (simp <;> omega)) _ | refine Below.setCell ?_ (by first | omega | (simp <;> omega)) _))) (hb_w2.mono (by first | omega | (simp <;> omega)))
        clear hb_w2
        go_wp2_with fail
        refine Calls.mono (X1.out _ (by simp) _) ?_
        rintro e w3 ⟨rfl, hb_w3⟩
        have hz_w3 := hb_w3.size
        try simp at hz_w3
        have HH_w3 := Lib.hid hb_w3
        have hB_w3 : Below w1.heap.size w1 w3 := Below.trans (by (repeat (first | (with_reducible exact Below.refl _ _) | (with_reducible assumption) | (with_reducible refine Below.drew ?_) | (focus ((with_reducible refine Below.setCell ?_ ?_ _); rotate_left; (first | omega | (simp <;> omega)))) | (focus ((with_reducible refine Below.alloc ?_ ?_ _); rotate_left; (first | omega | (simp <;> omega)))) | exact Below.refl _ _ | assumption | refine Below.drew ?_ | refine Below.alloc ?_ (by first | omega | (simp <;> omega)) _ | refine Below.setCell ?_ (by first | omega | (simp <;> omega)) _))) (hb_w3.mono (by first | omega | (simp <;> omega)))
        clear hb_w3
        try clear hB_w2
        go_wp2_with fail
        refine Calls.mono (X2.out _ (by simp) _) ?_
        rintro e w4 ⟨rfl, hb_w4⟩
        have hz_w4 := hb_w4.size
        try simp at hz_w4
        have HH_w4 := Lib.hid hb_w4
        have hB_w4 : Below w1.heap.size w1 w4 := Below.trans (by (repeat (first | (with_reducible exact Below.refl _ _) | (with_reducible assumption) | (with_reducible refine Below.drew ?_) | (focus ((with_reducible refine Below.setCell ?_ ?_ _); rotate_left; (first | omega | (simp <;> omega)))) | (focus ((with_reducible refine Below.alloc ?_ ?_ _); rotate_left; (first | omega | (simp <;> omega)))) | exact Below.refl _ _ | assumption | refine Below.drew ?_ | refine Below.alloc ?_ (by first | omega | (simp <;> omega)) _ | refine Below.setCell ?_ (by first | omega | (simp <;> omega)) _))) (hb_w4.mono (by first | omega | (simp <;> omega)))
        clear hb_w4
        try clear hB_w3
        go_wp2_with fail
        refine Calls.mono (X3.out _) ?_
        rintro e w5 ⟨rfl, hb_w5⟩
        have hz_w5 := hb_w5.size
        try simp at hz_w5
        have HH_w5 := Lib.hid hb_w5
        have hB_w5 : Below w1.heap.size w1 w5 := Below.trans (by (repeat (first | (with_reducible exact Below.refl _ _) | (with_reducible assumption) | (with_reducible refine Below.drew ?_) | (focus ((with_reducible refine Below.setCell ?_ ?_ _); rotate_left; (first | omega | (simp <;> omega)))) | (focus ((with_reducible refine Below.alloc ?_ ?_ _); rotate_left; (first | omega | (simp <;> omega)))) | exact Below.refl _ _ | assumption | refine Below.drew ?_ | refine Below.alloc ?_ (by first | omega | (simp <;> omega)) _ | refine Below.setCell ?_ (by first | omega | (simp <;> omega)) _))) (hb_w5.mono (by first | omega | (simp <;> omega)))
        clear hb_w5
        try clear hB_w4
        go_wp2_with fail
        refine Calls.mono (head_alive _) ?_
        rintro e w6 ⟨rfl, hb_w6⟩
        have hz_w6 := hb_w6.size
        try simp at hz_w6
        have HH_w6 := Lib.hid hb_w6
        have hB_w6 : Below w1.heap.size w1 w6 := Below.trans (by (repeat (first | (with_reducible exact Below.refl _ _) | (with_reducible assumption) | (with_reducible refine Below.drew ?_) | (focus ((with_reducible refine Below.setCell ?_ ?_ _); rotate_left; (first | omega | (simp <;> omega)))) | (focus ((with_reducible refine Below.alloc ?_ ?_ _); rotate_left; (first | omega | (simp <;> omega)))) | exact Below.refl _ _ | assumption | refine Below.drew ?_ | refine Below.alloc ?_ (by first | omega | (simp <;> omega)) _ | refine Below.setCell ?_ (by first | omega | (simp <;> omega)) _))) (hb_w6.mono (by first | omega | (simp <;> omega)))
        clear hb_w6
        try clear hB_w5
        go_wp2
        go_ret
        exact ⟨ret_bool (by simp), HB1.out.trans (hB_w6.mono hz1)⟩
      · have h2i : (3900 : Int) < (t.length : Int) := by omega
        have h3i := hplen.out rfl
        go_wp2_with fail
        refine Calls.mono (CPr.out _ _ HR.out) ?_
        rintro e w2 ⟨rfl, hb_w2⟩
        have hz_w2 := hb_w2.size
        try simp at hz_w2
        have HH_w2 := Lib.hid hb_w2
        have hB_w2 : Below w1.heap.size w1 w2 := Below.trans (by (repeat (first | (with_reducible exact Below.refl _ _) | (with_reducible assumption) | (with_reducible refine Below.drew ?_) | (focus ((with_reducible refine Below.setCell ?_ ?_ _); rotate_left; (first | omega | (simp <;> omega)))) | (focus ((with_reducible refine Below.alloc ?_ ?_ _); rotate_left; (first | omega | (simp <;> omega)))) | exact Below.refl _ _ | assumption | refine Below.drew ?_ | refine Below.alloc ?_ (by first | omega | (simp <;> omega)) _ | refine Below.setCell ?_ (by first | omega | (simp <;> omega)) _))) (hb_w2.mono (by first | omega | (simp <;> omega)))
        clear hb_w2
        try clear hB_w6
        go_wp2_with fail
        refine Calls.mono (head_alive _) ?_
        rintro e w3 ⟨rfl, hb_w3⟩
        have hz_w3 := hb_w3.size
        try simp at hz_w3
        have HH_w3 := Lib.hid hb_w3
        have hB_w3 : Below w1.heap.size w1 w3 := Below.trans (by (repeat (first | (with_reducible exact Below.refl _ _) | (with_reducible assumption) | (with_reducible refine Below.drew ?_) | (focus ((with_reducible refine Below.setCell ?_ ?_ _); rotate_left; (first | omega | (simp <;> omega)))) | (focus ((with_reducible refine Below.alloc ?_ ?_ _); rotate_left; (first | omega | (simp <;> omega)))) | exact Below.refl _ _ | assumption | refine Below.drew ?_ | refine Below.alloc ?_ (by first | omega | (simp <;> omega)) _ | refine Below.setCell ?_ (by first | omega | (simp <;> omega)) _))) (hb_w3.mono (by first | omega | (simp <;> omega)))
        clear hb_w3
        try clear hB_w2
        go_wp2
        go_ret
        exact ⟨ret_bool (by simp), HB1.out.trans (hB_w3.mono hz1)⟩
    · have hf1 : (e1 != 0) = true := by simpa using h1
      go_wp2_with fail
      refine Calls.mono (CPr.out _ _ HR.out) ?_
      rintro e w2 ⟨rfl, hb_w2⟩
      have hz_w2 := hb_w2.size
      try simp at hz_w2
      have HH_w2 := Lib.hid hb_w2
      have hB_w2 : Below w1.heap.size w1 w2 := Below.trans (by (repeat (first | (with_reducible exact Below.refl _ _) | (with_reducible assumption) | (with_reducible refine Below.drew ?_) | (focus ((with_reducible refine Below.setCell ?_ ?_ _); rotate_left; (first | omega | (simp <;> omega)))) | (focus ((with_reducible refine Below.alloc ?_ ?_ _); rotate_left; (first | omega | (simp <;> omega)))) | exact Below.refl _ _ | assumption | refine Below.drew ?_ | refine Below.alloc ?_ (by first | omega | (simp <;> omega)) _ | refine Below.setCell ?_ (by first | omega | (simp <;> omega)) _))) (hb_w2.mono (by first | omega | (simp <;> omega)))
      clear hb_w2
      try clear hB_w3
      go_wp2_with fail
      refine Calls.mono (head_alive _) ?_
      rintro e w3 ⟨rfl, hb_w3⟩
      have hz_w3 := hb_w3.size
      try simp at hz_w3
      have HH_w3 := Lib.hid hb_w3
      have hB_w3 : Below w1.heap.size w1 w3 := Below.trans (by (repeat (first | (with_reducible exact Below.refl _ _) | (with_reducible assumption) | (with_reducible refine Below.drew ?_) | (focus ((with_reducible refine Below.setCell ?_ ?_ _); rotate_left; (first | omega | (simp <;> omega)))) | (focus ((with_reducible refine Below.alloc ?_ ?_ _); rotate_left; (first | omega | (simp <;> omega)))) | exact Below.refl _ _ | assumption | refine Below.drew ?_ | refine Below.alloc ?_ (by first | omega | (simp <;> omega)) _ | refine Below.setCell ?_ (by first | omega | (simp <;> omega)) _))) (hb_w3.mono (by first | omega | (simp <;> omega)))
      clear hb_w3
      try clear hB_w2
      go_wp2
      go_ret
      exact ⟨ret_bool (by simp), HB1.out.trans (hB_w3.mono hz1)⟩
end Go.Proofs.YtpklbelhdfkjpaaDoor
