/- The law HeadOne: its walk. -/
import Derived.Test.YtpklbelhdfkjpaaDoorHeadLaw
import Derived.Test.YtpklbelhdfkjpaaDoorFldRow2
import Derived.Deep.RegionLaw
import Derived.Deep.DeepCutAuto
namespace Go.Proofs.YtpklbelhdfkjpaaDoor
open Go.RowKit Go.Sort Go.Shelf
set_option linter.unusedVariables false

/-- What the law asks of the texts. -/
theorem one_facts {T : List Fl} {f : Fl} (h1 : (headPrint T).2 = 0) (h2 : (headPrint (T ++ [f])).2 = 0) :
    (headPrint (T ++ [f])).1 = (headPrint T).1 ++ (f.1 ++ ([58, 32] ++ (f.2 ++ [13, 10]))) ∧
    ((headParse ((headPrint T).1 ++ ([110, 111, 32, 108, 105, 110, 101] ++ [13, 10]))).2 = 31 ∨ (3980 < (headPrint T).1.length ∧ (headParse ((headPrint T).1 ++ ([110, 111, 32, 108, 105, 110, 101] ++ [13, 10]))).2 = 2)) ∧
    ((headParse ((headPrint T).1 ++ ([58, 32, 110, 111, 110, 101] ++ [10]))).2 = 31 ∨ (3980 < (headPrint T).1.length ∧ (headParse ((headPrint T).1 ++ ([58, 32, 110, 111, 110, 101] ++ [10]))).2 = 2)) := by
  obtain ⟨a1, a2, a3⟩ := print_ok h1
  obtain ⟨b1, b2, b3⟩ := print_ok h2
  rw [b3, a3]
  refine ⟨write_snoc _ _, ?_, ?_⟩
  · rcases parse_bad_line a1 [110, 111, 32, 108, 105, 110, 101] (by decide) [13, 10] (.inl rfl) bad_no_line with h | ⟨h, h'⟩
    · exact .inl h
    · right; refine ⟨?_, h'⟩
      simp only [List.length_append, List.length_cons, List.length_nil] at h
      omega
  · rcases parse_bad_line a1 [58, 32, 110, 111, 110, 101] (by decide) [10] (.inr rfl) bad_none with h | ⟨h, h'⟩
    · exact .inl h
    · right; refine ⟨?_, h'⟩
      simp only [List.length_append, List.length_cons, List.length_nil] at h
      omega

set_option maxHeartbeats 3200000 in
set_option maxRecDepth 100000 in
theorem headOne_any (v : Value) (L : List (List Value)) (b c : ByteArray) (w : World) (hv : RowsIn w 2 v L ∧ ∀ c ∈ L, AllSh [.str, .str] c) (k1 : b.size ≤ maxLen) (k2 : c.size ≤ maxLen) (_hL : True) :
    Calls Tryd.prog 5 #[v, .string b, .string c] w fun e w' => e = .returned (.bool true) ∧ Below w.heap.size w w' := by
  obtain ⟨xs, hr0, hxl⟩ := reads_inF hv
  have C0 := Lib.hid (few v xs w hr0 hxl)
  clear hr0 hxl hv
  obtain ⟨T, hT⟩ : ∃ T, fewL xs = T := ⟨_, rfl⟩
  have hTs : ∀ f ∈ T, ShortF f := by rw [← hT]; exact fewL_short xs
  have hTl : T.length ≤ 45 := by rw [← hT]; exact fewL_len xs
  rw [hT] at C0
  obtain ⟨l0, rfl⟩ := S_of b
  obtain ⟨m0, rfl⟩ := S_of c
  rw [S_size] at k1 k2
  have hm : maxLen = 9223372036854775807 := rfl
  rw [hm] at k1 k2
  obtain ⟨p, hp, hp1, hp2⟩ : ∃ k : Nat, min (l0.length : Int) 60 = k ∧ k ≤ l0.length ∧ k ≤ 60 := ⟨min l0.length 60, by omega, by omega, by omega⟩
  obtain ⟨q, hq, hq1, hq2⟩ : ∃ k : Nat, min (m0.length : Int) 300 = k ∧ k ≤ m0.length ∧ k ≤ 300 := ⟨min m0.length 300, by omega, by omega, by omega⟩
  obtain ⟨n, hn⟩ : ∃ s, l0.take p = s := ⟨_, rfl⟩
  obtain ⟨x, hx⟩ : ∃ s, m0.take q = s := ⟨_, rfl⟩
  have hnl : n.length ≤ 60 := by rw [← hn, List.length_take]; omega
  have hxl : x.length ≤ 300 := by rw [← hx, List.length_take]; omega
  have hTf : ∀ f ∈ T ++ [(n, x)], ShortF f := fun f hf => by
    rcases List.mem_append.1 hf with hf | hf
    · exact hTs f hf
    · obtain rfl : f = (n, x) := by simpa using hf
      exact ⟨by show n.length ≤ _; omega, by show x.length ≤ _; omega⟩
  have CPr := Lib.hid (fun (u : Value) (W : World) (hr : ReadsF W u T) => headPrint_c u T W hr hTs)
  have CPf := Lib.hid (fun (u : Value) (W : World) (hr : ReadsF W u (T ++ [(n, x)])) => headPrint_c u (T ++ [(n, x)]) W hr hTf)
  have hplen := Lib.hid (fun h => print_len (L := T) h)
  have FA := Lib.hid (fun h1 h2 => one_facts (T := T) (f := (n, x)) h1 h2)
  obtain ⟨⟨t, e1⟩, hpr⟩ : ∃ x, headPrint T = x := ⟨_, rfl⟩
  obtain ⟨⟨t2, e2⟩, hpr2⟩ : ∃ y, headPrint (T ++ [(n, x)]) = y := ⟨_, rfl⟩
  rw [hpr] at CPr hplen FA
  rw [hpr2] at CPf FA
  simp only at CPr CPf hplen FA
  clear hT hm hTs hTf hpr hpr2
  go_enter Tryd.func5, Tryd.ntmps5
  go_wp2_with fail
  refine Calls.mono (C0.out) ?_
  rintro e w1 ⟨v1, rfl, hr1, hb_w1⟩
  have hz_w1 := hb_w1.size
  try simp at hz_w1
  have HH_w1 := Lib.hid hb_w1
  have hB_w1 : Below w.heap.size w w1 := Below.trans (by (repeat (first | (with_reducible exact Below.refl _ _) | (with_reducible assumption) | (with_reducible refine Below.drew ?_) | (focus ((with_reducible refine Below.setCell ?_ ?_ _); rotate_left; (first | omega | (simp <;> omega)))) | (focus ((with_reducible refine Below.alloc ?_ ?_ _); rotate_left; (first | omega | (simp <;> omega)))) | exact Below.refl _ _ | assumption | refine Below.drew ?_ | refine Below.alloc ?_ (by first | omega | (simp <;> omega)) _ | refine Below.setCell ?_ (by first | omega | (simp <;> omega)) _))) (hb_w1.mono (by first | omega | (simp <;> omega)))
  clear hb_w1
  have HR1 := Lib.hid hr1
  obtain ⟨ao, cap, rfl, g1, g2, _, _⟩ := hr1
  go_wp2_with fail
  go_region
  go_wp2_with fail
  refine Calls.mono (CPr.out _ _ (HR1.out.below (by (repeat (first | (with_reducible exact Below.refl _ _) | (with_reducible assumption) | (with_reducible refine Below.drew ?_) | (focus ((with_reducible refine Below.setCell ?_ ?_ _); rotate_left; (first | omega | (simp <;> omega)))) | (focus ((with_reducible refine Below.alloc ?_ ?_ _); rotate_left; (first | omega | (simp <;> omega)))) | exact Below.refl _ _ | assumption | refine Below.drew ?_ | refine Below.alloc ?_ (by first | omega | (simp <;> omega)) _ | refine Below.setCell ?_ (by first | omega | (simp <;> omega)) _))))) ?_
  rintro e w2 ⟨rfl, hb_w2⟩
  have hz_w2 := hb_w2.size
  try simp at hz_w2
  obtain ⟨c_w2_w1_0, f_w2_w1_0⟩ := bk hb_w2 (w1.heap.size) (by first | omega | (simp <;> omega))
  have c_w2_w1_0_0 := c_w2_w1_0 0
  conv at c_w2_w1_0_0 => rhs; simp [go_sem, *]
  have f_w2_w1_0_0 := f_w2_w1_0 0
  conv at f_w2_w1_0_0 => rhs; simp [go_sem, *]
  have c_w2_w1_0_1 := c_w2_w1_0 1
  conv at c_w2_w1_0_1 => rhs; simp [go_sem, *]
  have f_w2_w1_0_1 := f_w2_w1_0 1
  conv at f_w2_w1_0_1 => rhs; simp [go_sem, *]
  have HH_w2 := Lib.hid hb_w2
  have hB_w2 : Below w.heap.size w w2 := Below.trans (by (repeat (first | (with_reducible exact Below.refl _ _) | (with_reducible assumption) | (with_reducible refine Below.drew ?_) | (focus ((with_reducible refine Below.setCell ?_ ?_ _); rotate_left; (first | omega | (simp <;> omega)))) | (focus ((with_reducible refine Below.alloc ?_ ?_ _); rotate_left; (first | omega | (simp <;> omega)))) | exact Below.refl _ _ | assumption | refine Below.drew ?_ | refine Below.alloc ?_ (by first | omega | (simp <;> omega)) _ | refine Below.setCell ?_ (by first | omega | (simp <;> omega)) _))) (hb_w2.mono (by first | omega | (simp <;> omega)))
  clear hb_w2 c_w2_w1_0 f_w2_w1_0
  try clear hB_w1
  have far_w2_w1_0 := far (show w1.heap.size < w2.heap.size by omega)
  have HB12 := Lib.hid (Below.trans (show Below w1.heap.size w1 _ by (repeat (first | (with_reducible exact Below.refl _ _) | (with_reducible assumption) | (with_reducible refine Below.drew ?_) | (focus ((with_reducible refine Below.setCell ?_ ?_ _); rotate_left; (first | omega | (simp <;> omega)))) | (focus ((with_reducible refine Below.alloc ?_ ?_ _); rotate_left; (first | omega | (simp <;> omega)))) | exact Below.refl _ _ | assumption | refine Below.drew ?_ | refine Below.alloc ?_ (by first | omega | (simp <;> omega)) _ | refine Below.setCell ?_ (by first | omega | (simp <;> omega)) _))) (HH_w2.out.mono (by (first | omega | (simp <;> omega)))))
  go_upto_region 4 with fail
  go_cut [10, 11] (fun tv ev wx => tv = .string (S t2) ∧ ev = .int .i64 e2 ∧ wx.cell? ⟨w1.heap.size, 0, none⟩ = some (.string (S n)) ∧ wx.cell? ⟨w1.heap.size, 1, none⟩ = some (.string (S x)) ∧ w1.heap.size < wx.heap.size ∧ Below w.heap.size w wx)
  case first =>
    as_aux_lemma =>
      go_region_law (first
        | (refine step_append_row rfl _ _ rfl _ w2.heap.size _ [] (OwnsF.empty_at (by first | exact World.alloc_heap_new _ _ | (have h := World.alloc_heap_new (w2.alloc (.cells #[.string (S n), .string (S x)] 33)) (.cells #[] 33); rw [World.size_alloc] at h; exact h) | exact (Lib.alloc_old _ _ _ (by simp)).trans (World.alloc_heap_new _ _)) (by (first | omega | (simp <;> omega)))) rfl ao cap T (HR1.out.below (HB12.out.trans (by (repeat (first | (with_reducible exact Below.refl _ _) | (with_reducible assumption) | (with_reducible refine Below.drew ?_) | (focus ((with_reducible refine Below.setCell ?_ ?_ _); rotate_left; (first | omega | (simp <;> omega)))) | (focus ((with_reducible refine Below.alloc ?_ ?_ _); rotate_left; (first | omega | (simp <;> omega)))) | exact Below.refl _ _ | assumption | refine Below.drew ?_ | refine Below.alloc ?_ (by first | omega | (simp <;> omega)) _ | refine Below.setCell ?_ (by first | omega | (simp <;> omega)) _))))) rfl (by simp; omega) (by (first | omega | (simp <;> omega))) ?_; intro v5 w5 hown5 hg5; have hb5 := Below.grown (show Below w2.heap.size w2 _ by (repeat (first | (with_reducible exact Below.refl _ _) | (with_reducible assumption) | (with_reducible refine Below.drew ?_) | (focus ((with_reducible refine Below.setCell ?_ ?_ _); rotate_left; (first | omega | (simp <;> omega)))) | (focus ((with_reducible refine Below.alloc ?_ ?_ _); rotate_left; (first | omega | (simp <;> omega)))) | exact Below.refl _ _ | assumption | refine Below.drew ?_ | refine Below.alloc ?_ (by first | omega | (simp <;> omega)) _ | refine Below.setCell ?_ (by first | omega | (simp <;> omega)) _))) hg5 (by (first | omega | (simp <;> omega))) (fun k hk => by simp [Value.ownBlock] at hk; omega); have hz5 := hb5.size; have hs5 := hg5.size; (try simp at hs5); have c50 := (hb5.cell (p := ⟨w1.heap.size, 0, none⟩) (by (first | omega | (simp <;> omega)))).trans c_w2_w1_0_0; have c51 := (hb5.cell (p := ⟨w1.heap.size, 1, none⟩) (by (first | omega | (simp <;> omega)))).trans c_w2_w1_0_1; have HO5 := Lib.hid (show OwnsF w5 w2.heap.size v5 T by simpa using hown5); have HG5 := Lib.hid hg5.block; clear hown5 hg5)
        | (refine step_append_row rfl _ _ rfl _ w2.heap.size _ T (HO5.out.below (by (repeat (first | (with_reducible exact Below.refl _ _) | (with_reducible assumption) | (with_reducible refine Below.drew ?_) | (focus ((with_reducible refine Below.setCell ?_ ?_ _); rotate_left; (first | omega | (simp <;> omega)))) | (focus ((with_reducible refine Below.alloc ?_ ?_ _); rotate_left; (first | omega | (simp <;> omega)))) | exact Below.refl _ _ | assumption | refine Below.drew ?_ | refine Below.alloc ?_ (by first | omega | (simp <;> omega)) _ | refine Below.setCell ?_ (by first | omega | (simp <;> omega)) _)))) rfl _ 1 [(n, x)] (reads_one (by (first | omega | (simp <;> omega))) (by first | (simp; done) | exact (World.cell?_of_block (a := ⟨_, 0, none⟩) (HG5.out _ (by first | omega | (simp <;> omega)) (by simp [Value.ownBlock]))).trans (by simp)) (by first | (simp; done) | exact (World.cell?_of_block (a := ⟨_, 1, none⟩) (HG5.out _ (by first | omega | (simp <;> omega)) (by simp [Value.ownBlock]))).trans (by simp))) rfl (by simp; omega) (by (first | omega | (simp <;> omega))) ?_; intro v6 w6 hown6 hg6; have hb6 := Below.grown (show Below w2.heap.size w2 _ by (repeat (first | (with_reducible exact Below.refl _ _) | (with_reducible assumption) | (with_reducible refine Below.drew ?_) | (focus ((with_reducible refine Below.setCell ?_ ?_ _); rotate_left; (first | omega | (simp <;> omega)))) | (focus ((with_reducible refine Below.alloc ?_ ?_ _); rotate_left; (first | omega | (simp <;> omega)))) | exact Below.refl _ _ | assumption | refine Below.drew ?_ | refine Below.alloc ?_ (by first | omega | (simp <;> omega)) _ | refine Below.setCell ?_ (by first | omega | (simp <;> omega)) _))) hg6 (by (first | omega | (simp <;> omega))) (fun k hk => (World.ownsRow.lt HO5.out k hk).1); have hz6 := hb6.size; have c60 := (hb6.cell (p := ⟨w1.heap.size, 0, none⟩) (by (first | omega | (simp <;> omega)))).trans c_w2_w1_0_0; have c61 := (hb6.cell (p := ⟨w1.heap.size, 1, none⟩) (by (first | omega | (simp <;> omega)))).trans c_w2_w1_0_1; have HO6 := Lib.hid hown6.reads; clear hown6 hg6)
        | (go_simp; go_at_call 9; refine Calls.mono (CPf.out _ _ HO6.out) ?_; rintro e w7 ⟨rfl, hb7⟩; have hb8 := hb6.trans (hb7.mono (by omega)); have hz7 := hb8.size; have c70 := (hb8.cell (p := ⟨w1.heap.size, 0, none⟩) (by (first | omega | (simp <;> omega)))).trans c_w2_w1_0_0; have c71 := (hb8.cell (p := ⟨w1.heap.size, 1, none⟩) (by (first | omega | (simp <;> omega)))).trans c_w2_w1_0_1; have hb9 := hB_w2.trans (hb8.mono (by omega))))
      all_goals (go_wp2_with fail; go_meet)
      all_goals (exact ⟨rfl, rfl, c70, c71, by omega, hb9⟩)
  case rest =>
    obtain ⟨rfl, rfl, k0, k3, hlt, hBc⟩ := hcut
    obtain ⟨wd, hwd⟩ : ∃ y, y = wc := ⟨_, rfl⟩
    rw [← hwd] at k0 k3 hlt hBc ⊢
    clear hwd
    obtain ⟨g, hg⟩ : ∃ y, w1.heap.size = y := ⟨_, rfl⟩
    rw [hg] at k0 k3 hlt ⊢
    have fg := far hlt
    have HBC := Lib.hid hBc
    have hzd := hBc.size
    clear hg hBc
    by_cases h1 : e1 = 0
    · by_cases h2 : e2 = 0
      · subst h1
        subst h2
        have ht4 := hplen.out rfl
        obtain ⟨f1, f2, f3⟩ := FA.out rfl rfl
        (try simp only at f1)
        have X1 := Lib.hid (fun (l : List UInt8) (hl : l = t ++ ([110, 111, 32, 108, 105, 110, 101] ++ [13, 10])) W => (show Calls Tryd.prog 10 #[.string (S l)] W (fun e w' => ∃ v, e = .returned (.tuple #[v, .int .i64 (headParse (t ++ ([110, 111, 32, 108, 105, 110, 101] ++ [13, 10]))).2]) ∧ Below W.heap.size W w') from by
          rw [hl]
          exact (headParse_c (t ++ ([110, 111, 32, 108, 105, 110, 101] ++ [13, 10])) (by simp only [List.length_append, List.length_cons, List.length_nil]; omega) W).mono fun e w' ⟨v, a, b, c⟩ => ⟨v, a, c⟩))
        have X2 := Lib.hid (fun (l : List UInt8) (hl : l = t ++ ([58, 32, 110, 111, 110, 101] ++ [10])) W => (show Calls Tryd.prog 10 #[.string (S l)] W (fun e w' => ∃ v, e = .returned (.tuple #[v, .int .i64 (headParse (t ++ ([58, 32, 110, 111, 110, 101] ++ [10]))).2]) ∧ Below W.heap.size W w') from by
          rw [hl]
          exact (headParse_c (t ++ ([58, 32, 110, 111, 110, 101] ++ [10])) (by simp only [List.length_append, List.length_cons, List.length_nil]; omega) W).mono fun e w' ⟨v, a, b, c⟩ => ⟨v, a, c⟩))
        obtain ⟨y1, hy1⟩ : ∃ y, (headParse (t ++ ([110, 111, 32, 108, 105, 110, 101] ++ [13, 10]))).2 = y := ⟨_, rfl⟩
        obtain ⟨y2, hy2⟩ : ∃ y, (headParse (t ++ ([58, 32, 110, 111, 110, 101] ++ [10]))).2 = y := ⟨_, rfl⟩
        rw [hy1] at f2 X1
        rw [hy2] at f3 X2
        subst f1
        clear hy1 hy2
        rcases f2 with rfl | ⟨q2, rfl⟩
        all_goals rcases f3 with rfl | ⟨q3, rfl⟩
        all_goals
          (try have q2i : (3980 : Int) < (t.length : Int) := by omega)
          go_wp2_with fail
          refine Calls.mono (X1.out _ (by simp) _) ?_
          rintro e w8 ⟨v8, rfl, hb_w8⟩
          have hz_w8 := hb_w8.size
          try simp at hz_w8
          obtain ⟨c_w8_vg, f_w8_vg⟩ := bk hb_w8 (g) (by first | omega | (simp <;> omega))
          have c_w8_vg_0 := c_w8_vg 0
          conv at c_w8_vg_0 => rhs; simp [go_sem, *]
          have f_w8_vg_0 := f_w8_vg 0
          conv at f_w8_vg_0 => rhs; simp [go_sem, *]
          have c_w8_vg_1 := c_w8_vg 1
          conv at c_w8_vg_1 => rhs; simp [go_sem, *]
          have f_w8_vg_1 := f_w8_vg 1
          conv at f_w8_vg_1 => rhs; simp [go_sem, *]
          have HH_w8 := Lib.hid hb_w8
          have hB_w8 : Below wd.heap.size wd w8 := Below.trans (by (repeat (first | (with_reducible exact Below.refl _ _) | (with_reducible assumption) | (with_reducible refine Below.drew ?_) | (focus ((with_reducible refine Below.setCell ?_ ?_ _); rotate_left; (first | omega | (simp <;> omega)))) | (focus ((with_reducible refine Below.alloc ?_ ?_ _); rotate_left; (first | omega | (simp <;> omega)))) | exact Below.refl _ _ | assumption | refine Below.drew ?_ | refine Below.alloc ?_ (by first | omega | (simp <;> omega)) _ | refine Below.setCell ?_ (by first | omega | (simp <;> omega)) _))) (hb_w8.mono (by first | omega | (simp <;> omega)))
          clear hb_w8 c_w8_vg f_w8_vg
          try clear c_w2_w1_0_0
          try clear f_w2_w1_0_0
          try clear c_w2_w1_0_1
          try clear f_w2_w1_0_1
          try clear far_w2_w1_0
          try clear hB_w2
          have far_w8_vg := far (show g < w8.heap.size by omega)
          go_wp2_with fail
          refine Calls.mono (X2.out _ (by simp) _) ?_
          rintro e w9 ⟨v9, rfl, hb_w9⟩
          have hz_w9 := hb_w9.size
          try simp at hz_w9
          obtain ⟨c_w9_vg, f_w9_vg⟩ := bk hb_w9 (g) (by first | omega | (simp <;> omega))
          have c_w9_vg_0 := c_w9_vg 0
          conv at c_w9_vg_0 => rhs; simp [go_sem, *]
          have f_w9_vg_0 := f_w9_vg 0
          conv at f_w9_vg_0 => rhs; simp [go_sem, *]
          have c_w9_vg_1 := c_w9_vg 1
          conv at c_w9_vg_1 => rhs; simp [go_sem, *]
          have f_w9_vg_1 := f_w9_vg 1
          conv at f_w9_vg_1 => rhs; simp [go_sem, *]
          have HH_w9 := Lib.hid hb_w9
          have hB_w9 : Below wd.heap.size wd w9 := Below.trans (by (repeat (first | (with_reducible exact Below.refl _ _) | (with_reducible assumption) | (with_reducible refine Below.drew ?_) | (focus ((with_reducible refine Below.setCell ?_ ?_ _); rotate_left; (first | omega | (simp <;> omega)))) | (focus ((with_reducible refine Below.alloc ?_ ?_ _); rotate_left; (first | omega | (simp <;> omega)))) | exact Below.refl _ _ | assumption | refine Below.drew ?_ | refine Below.alloc ?_ (by first | omega | (simp <;> omega)) _ | refine Below.setCell ?_ (by first | omega | (simp <;> omega)) _))) (hb_w9.mono (by first | omega | (simp <;> omega)))
          clear hb_w9 c_w9_vg f_w9_vg
          try clear c_w8_vg_0
          try clear f_w8_vg_0
          try clear c_w8_vg_1
          try clear f_w8_vg_1
          try clear far_w8_vg
          try clear hB_w8
          have far_w9_vg := far (show g < w9.heap.size by omega)
          go_wp2_with fail
          refine Calls.mono (head_alive _) ?_
          rintro e w10 ⟨rfl, hb_w10⟩
          have hz_w10 := hb_w10.size
          try simp at hz_w10
          obtain ⟨c_w10_vg, f_w10_vg⟩ := bk hb_w10 (g) (by first | omega | (simp <;> omega))
          have c_w10_vg_0 := c_w10_vg 0
          conv at c_w10_vg_0 => rhs; simp [go_sem, *]
          have f_w10_vg_0 := f_w10_vg 0
          conv at f_w10_vg_0 => rhs; simp [go_sem, *]
          have c_w10_vg_1 := c_w10_vg 1
          conv at c_w10_vg_1 => rhs; simp [go_sem, *]
          have f_w10_vg_1 := f_w10_vg 1
          conv at f_w10_vg_1 => rhs; simp [go_sem, *]
          have HH_w10 := Lib.hid hb_w10
          have hB_w10 : Below wd.heap.size wd w10 := Below.trans (by (repeat (first | (with_reducible exact Below.refl _ _) | (with_reducible assumption) | (with_reducible refine Below.drew ?_) | (focus ((with_reducible refine Below.setCell ?_ ?_ _); rotate_left; (first | omega | (simp <;> omega)))) | (focus ((with_reducible refine Below.alloc ?_ ?_ _); rotate_left; (first | omega | (simp <;> omega)))) | exact Below.refl _ _ | assumption | refine Below.drew ?_ | refine Below.alloc ?_ (by first | omega | (simp <;> omega)) _ | refine Below.setCell ?_ (by first | omega | (simp <;> omega)) _))) (hb_w10.mono (by first | omega | (simp <;> omega)))
          clear hb_w10 c_w10_vg f_w10_vg
          try clear c_w9_vg_0
          try clear f_w9_vg_0
          try clear c_w9_vg_1
          try clear f_w9_vg_1
          try clear far_w9_vg
          try clear hB_w9
          have far_w10_vg := far (show g < w10.heap.size by omega)
          go_wp2
          go_ret
          exact ⟨ret_bool (by simp), HBC.out.trans (hB_w10.mono hzd)⟩
      · have hf2 : (e2 != 0) = true := by simpa using h2
        go_wp2_with fail
        refine Calls.mono (head_alive _) ?_
        rintro e w8 ⟨rfl, hb_w8⟩
        have hz_w8 := hb_w8.size
        try simp at hz_w8
        have HH_w8 := Lib.hid hb_w8
        have hB_w8 : Below wd.heap.size wd w8 := Below.trans (by (repeat (first | (with_reducible exact Below.refl _ _) | (with_reducible assumption) | (with_reducible refine Below.drew ?_) | (focus ((with_reducible refine Below.setCell ?_ ?_ _); rotate_left; (first | omega | (simp <;> omega)))) | (focus ((with_reducible refine Below.alloc ?_ ?_ _); rotate_left; (first | omega | (simp <;> omega)))) | exact Below.refl _ _ | assumption | refine Below.drew ?_ | refine Below.alloc ?_ (by first | omega | (simp <;> omega)) _ | refine Below.setCell ?_ (by first | omega | (simp <;> omega)) _))) (hb_w8.mono (by first | omega | (simp <;> omega)))
        clear hb_w8
        try clear c_w10_vg_0
        try clear f_w10_vg_0
        try clear c_w10_vg_1
        try clear f_w10_vg_1
        try clear far_w10_vg
        try clear hB_w10
        go_wp2
        go_ret
        exact ⟨ret_bool (by simp), HBC.out.trans (hB_w8.mono hzd)⟩
    · have hf1 : (e1 != 0) = true := by simpa using h1
      go_wp2_with fail
      refine Calls.mono (head_alive _) ?_
      rintro e w8 ⟨rfl, hb_w8⟩
      have hz_w8 := hb_w8.size
      try simp at hz_w8
      have HH_w8 := Lib.hid hb_w8
      have hB_w8 : Below wd.heap.size wd w8 := Below.trans (by (repeat (first | (with_reducible exact Below.refl _ _) | (with_reducible assumption) | (with_reducible refine Below.drew ?_) | (focus ((with_reducible refine Below.setCell ?_ ?_ _); rotate_left; (first | omega | (simp <;> omega)))) | (focus ((with_reducible refine Below.alloc ?_ ?_ _); rotate_left; (first | omega | (simp <;> omega)))) | exact Below.refl _ _ | assumption | refine Below.drew ?_ | refine Below.alloc ?_ (by first | omega | (simp <;> omega)) _ | refine Below.setCell ?_ (by first | omega | (simp <;> omega)) _))) (hb_w8.mono (by first | omega | (simp <;> omega)))
      clear hb_w8
      go_wp2
      go_ret
      exact ⟨ret_bool (by simp), HBC.out.trans (hB_w8.mono hzd)⟩
end Go.Proofs.YtpklbelhdfkjpaaDoor
