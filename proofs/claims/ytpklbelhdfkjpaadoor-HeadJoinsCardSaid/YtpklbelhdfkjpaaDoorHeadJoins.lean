/- The law HeadJoins: its walk. -/
import Derived.Test.YtpklbelhdfkjpaaDoorHeadLaw
namespace Go.Proofs.YtpklbelhdfkjpaaDoor
open Go.RowKit Go.Sort Go.Shelf
set_option linter.unusedVariables false

theorem no13_len (L : List Fl) : (writeE [10] L).length ≤ (writeE [13, 10] L).length := by
  induction L with
  | nil => simp [writeE]
  | cons f L ih => rw [writeE_cons, writeE_cons]; simp only [List.length_append, List.length_cons, List.length_nil]; omega
theorem joins_facts {A B : List Fl} (hA : (headPrint A).2 = 0) (hB : (headPrint B).2 = 0) (h40 : A.length + B.length ≤ 40) (hl : (headPrint A).1.length + (headPrint B).1.length ≤ 4000) :
    headParse ((headPrint A).1 ++ (headPrint B).1) = (A ++ B, 0) ∧ headParse ((headPrint A).1.filter (fun c => c != 13) ++ (headPrint B).1) = (A ++ B, 0) := by
  obtain ⟨a1, a2, a3⟩ := print_ok hA
  obtain ⟨b1, b2, b3⟩ := print_ok hB
  rw [a3, b3] at hl ⊢
  refine ⟨parse_two (.inl rfl) (.inl rfl) a1 b1 h40 (by rw [List.length_append]; exact hl), ?_⟩
  rw [no13 (right_parts a1).2]
  exact parse_two (.inr rfl) (.inl rfl) a1 b1 h40 (by have := no13_len A; rw [List.length_append]; omega)

set_option maxHeartbeats 3200000 in
set_option maxRecDepth 100000 in
theorem headJoins_any (v : Value) (L : List (List Value)) (u : Value) (M : List (List Value)) (w : World) (hv : RowsIn w 2 v L ∧ ∀ c ∈ L, AllSh [.str, .str] c) (hu : RowsIn w 2 u M ∧ ∀ c ∈ M, AllSh [.str, .str] c) (_hL : True) :
    Calls Tryd.prog 4 #[v, u] w fun e w' => e = .returned (.bool true) ∧ Below w.heap.size w w' := by
  obtain ⟨xs, hr0, hxl⟩ := reads_inF hv
  obtain ⟨ys, hq0, hyl⟩ := reads_inF hu
  have C0 := Lib.hid (few v xs w hr0 hxl)
  have D0 := Lib.hid (fun W (hb : Below w.heap.size w W) => few u ys W (hq0.below hb) hyl)
  clear hr0 hxl hv hq0 hyl hu
  obtain ⟨A, hA⟩ : ∃ T, fewL xs = T := ⟨_, rfl⟩
  obtain ⟨B, hB⟩ : ∃ T, fewL ys = T := ⟨_, rfl⟩
  have hAs : ∀ f ∈ A, ShortF f := by rw [← hA]; exact fewL_short xs
  have hBs : ∀ f ∈ B, ShortF f := by rw [← hB]; exact fewL_short ys
  have hAl : A.length ≤ 45 := by rw [← hA]; exact fewL_len xs
  have hBl : B.length ≤ 45 := by rw [← hB]; exact fewL_len ys
  rw [hA] at C0
  rw [hB] at D0
  have CA := Lib.hid (fun (u : Value) (W : World) (hr : ReadsF W u A) => headPrint_c u A W hr hAs)
  have CB := Lib.hid (fun (u : Value) (W : World) (hr : ReadsF W u B) => headPrint_c u B W hr hBs)
  have J := Lib.hid (fun h1 h2 h3 h4 => joins_facts (A := A) (B := B) h1 h2 h3 h4)
  have PA := Lib.hid (fun h => print_len (L := A) h)
  have PB := Lib.hid (fun h => print_len (L := B) h)
  obtain ⟨⟨s, e1⟩, hp⟩ : ∃ x, headPrint A = x := ⟨_, rfl⟩
  obtain ⟨⟨t, e2⟩, hq⟩ : ∃ x, headPrint B = x := ⟨_, rfl⟩
  rw [hp] at CA J PA
  rw [hq] at CB J PB
  simp only at CA CB J PA PB
  clear hA hB hAs hBs hp hq
  by_cases h1 : e1 = 0
  · subst h1
    by_cases h2 : e2 = 0
    · subst h2
      have hs4 := PA.out rfl
      have ht4 := PB.out rfl
      by_cases h3 : A.length + B.length ≤ 40
      · have h3i : (A.length : Int) + (B.length : Int) ≤ 40 := by omega
        by_cases h4 : s.length + t.length ≤ 4000
        · have h4i : (s.length : Int) + (t.length : Int) ≤ 4000 := by omega
          obtain ⟨x1, x2⟩ := J.out rfl rfl h3 h4
          have X1 := Lib.hid (fun (l : List UInt8) (hl : l = s ++ t) W => show Calls Tryd.prog 10 #[.string (S l)] W (fun e w' => ∃ v, e = .returned (.tuple #[v, .int .i64 0]) ∧ ReadsF w' v (A ++ B) ∧ Below W.heap.size W w') from by
            have := headParse_c l (by rw [hl, List.length_append]; omega) W
            rw [hl, x1] at this
            rw [hl]
            exact this)
          have X2 := Lib.hid (fun (l : List UInt8) (hl : l = s.filter (fun c => c != 13) ++ t) W => show Calls Tryd.prog 10 #[.string (S l)] W (fun e w' => ∃ v, e = .returned (.tuple #[v, .int .i64 0]) ∧ ReadsF w' v (A ++ B) ∧ Below W.heap.size W w') from by
            have := headParse_c l (by rw [hl, List.length_append]; have := List.length_filter_le (fun c : UInt8 => c != 13) s; omega) W
            rw [hl, x2] at this
            rw [hl]
            exact this)
          clear x1 x2
          go_enter Tryd.func4, Tryd.ntmps4
          go_wp2_with fail
          refine Calls.mono (C0.out) ?_
          rintro e w1 ⟨v1, rfl, hr1, hb_w1⟩
          have hz_w1 := hb_w1.size
          try simp at hz_w1
          have HH_w1 := Lib.hid hb_w1
          have hB_w1 : Below w.heap.size w w1 := Below.trans (by (repeat (first | (with_reducible exact Below.refl _ _) | (with_reducible assumption) | (with_reducible refine Below.drew ?_) | (focus ((with_reducible refine Below.setCell ?_ ?_ _); rotate_left; (first | omega | (simp <;> omega)))) | (focus ((with_reducible refine Below.alloc ?_ ?_ _); rotate_left; (first | omega | (simp <;> omega)))) | exact Below.refl _ _ | assumption | refine Below.drew ?_ | refine Below.alloc ?_ (by first | omega | (simp <;> omega)) _ | refine Below.setCell ?_ (by first | omega | (simp <;> omega)) _))) (hb_w1.mono (by first | omega | (simp <;> omega)))
          clear hb_w1
          have HR1 := Lib.hid hr1
          obtain ⟨ao1, cap1, rfl, g1, g2, _, _⟩ := hr1
          go_wp2_with fail
          refine Calls.mono (D0.out _ (by (repeat (first | (with_reducible exact Below.refl _ _) | (with_reducible assumption) | (with_reducible refine Below.drew ?_) | (focus ((with_reducible refine Below.setCell ?_ ?_ _); rotate_left; (first | omega | (simp <;> omega)))) | (focus ((with_reducible refine Below.alloc ?_ ?_ _); rotate_left; (first | omega | (simp <;> omega)))) | exact Below.refl _ _ | assumption | refine Below.drew ?_ | refine Below.alloc ?_ (by first | omega | (simp <;> omega)) _ | refine Below.setCell ?_ (by first | omega | (simp <;> omega)) _)))) ?_
          rintro e w2 ⟨v2, rfl, hr2, hb_w2⟩
          have hz_w2 := hb_w2.size
          try simp at hz_w2
          have HH_w2 := Lib.hid hb_w2
          have hB_w2 : Below w.heap.size w w2 := Below.trans (by (repeat (first | (with_reducible exact Below.refl _ _) | (with_reducible assumption) | (with_reducible refine Below.drew ?_) | (focus ((with_reducible refine Below.setCell ?_ ?_ _); rotate_left; (first | omega | (simp <;> omega)))) | (focus ((with_reducible refine Below.alloc ?_ ?_ _); rotate_left; (first | omega | (simp <;> omega)))) | exact Below.refl _ _ | assumption | refine Below.drew ?_ | refine Below.alloc ?_ (by first | omega | (simp <;> omega)) _ | refine Below.setCell ?_ (by first | omega | (simp <;> omega)) _))) (hb_w2.mono (by first | omega | (simp <;> omega)))
          clear hb_w2
          try clear hB_w1
          have HR2 := Lib.hid hr2
          obtain ⟨ao2, cap2, rfl, g3, g4, _, _⟩ := hr2
          go_wp2_with fail
          refine Calls.mono (CA.out _ _ (HR1.out.below HH_w2.out)) ?_
          rintro e w3 ⟨rfl, hb_w3⟩
          have hz_w3 := hb_w3.size
          try simp at hz_w3
          have HH_w3 := Lib.hid hb_w3
          have hB_w3 : Below w.heap.size w w3 := Below.trans (by (repeat (first | (with_reducible exact Below.refl _ _) | (with_reducible assumption) | (with_reducible refine Below.drew ?_) | (focus ((with_reducible refine Below.setCell ?_ ?_ _); rotate_left; (first | omega | (simp <;> omega)))) | (focus ((with_reducible refine Below.alloc ?_ ?_ _); rotate_left; (first | omega | (simp <;> omega)))) | exact Below.refl _ _ | assumption | refine Below.drew ?_ | refine Below.alloc ?_ (by first | omega | (simp <;> omega)) _ | refine Below.setCell ?_ (by first | omega | (simp <;> omega)) _))) (hb_w3.mono (by first | omega | (simp <;> omega)))
          clear hb_w3
          try clear hB_w2
          go_wp2_with fail
          refine Calls.mono (CB.out _ _ (HR2.out.below HH_w3.out)) ?_
          rintro e w4 ⟨rfl, hb_w4⟩
          have hz_w4 := hb_w4.size
          try simp at hz_w4
          have HH_w4 := Lib.hid hb_w4
          have hB_w4 : Below w.heap.size w w4 := Below.trans (by (repeat (first | (with_reducible exact Below.refl _ _) | (with_reducible assumption) | (with_reducible refine Below.drew ?_) | (focus ((with_reducible refine Below.setCell ?_ ?_ _); rotate_left; (first | omega | (simp <;> omega)))) | (focus ((with_reducible refine Below.alloc ?_ ?_ _); rotate_left; (first | omega | (simp <;> omega)))) | exact Below.refl _ _ | assumption | refine Below.drew ?_ | refine Below.alloc ?_ (by first | omega | (simp <;> omega)) _ | refine Below.setCell ?_ (by first | omega | (simp <;> omega)) _))) (hb_w4.mono (by first | omega | (simp <;> omega)))
          clear hb_w4
          try clear hB_w3

          go_wp2_with fail
          refine Calls.mono (X1.out _ (by simp) _) ?_
          rintro e w5 ⟨v5, rfl, hr5, hb_w5⟩
          have hz_w5 := hb_w5.size
          try simp at hz_w5
          have HH_w5 := Lib.hid hb_w5
          have hB_w5 : Below w.heap.size w w5 := Below.trans (by (repeat (first | (with_reducible exact Below.refl _ _) | (with_reducible assumption) | (with_reducible refine Below.drew ?_) | (focus ((with_reducible refine Below.setCell ?_ ?_ _); rotate_left; (first | omega | (simp <;> omega)))) | (focus ((with_reducible refine Below.alloc ?_ ?_ _); rotate_left; (first | omega | (simp <;> omega)))) | exact Below.refl _ _ | assumption | refine Below.drew ?_ | refine Below.alloc ?_ (by first | omega | (simp <;> omega)) _ | refine Below.setCell ?_ (by first | omega | (simp <;> omega)) _))) (hb_w5.mono (by first | omega | (simp <;> omega)))
          clear hb_w5
          try clear hB_w4
          have HR5 := Lib.hid hr5
          clear hr5
          go_wp2_with fail
          go_loop [11, 62] (fun bv iv => ∃ k : Nat, k ≤ s.length ∧ bv = .string (S ((s.take k).filter (fun c => c != 13))) ∧ iv = .int .i64 k) (fun _ iv => s.length - (intOf iv).toNat)
          case atStart => exact ⟨0, Nat.zero_le _, rfl, rfl⟩
          case round =>
            obtain ⟨k, hk, rfl, rfl⟩ := hrel
            by_cases hlt : k < s.length
            · have hbk : bAt s k = (s[k].toNat : Int) := bAt_eq hlt
              have htk : (s.take (k + 1)).filter (fun c => c != 13) = (s.take k).filter (fun c => c != 13) ++ (if s[k] = 13 then [] else [s[k]]) := by
                rw [List.take_succ_eq_append_getElem hlt, List.filter_append]
                congr 1
                by_cases h : s[k] = 13 <;> simp [h]
              have hsl : (s.take (k + 1)).drop k = [s[k]] := by
                rw [List.take_succ_eq_append_getElem hlt, List.drop_append]
                simp [Nat.le_of_lt hlt]
              have hfl : ((s.take k).filter (fun c => c != 13)).length ≤ k := Nat.le_trans (List.length_filter_le _ _) (by rw [List.length_take]; omega)
              obtain ⟨c, hc⟩ : ∃ c, s[k] = c := ⟨_, rfl⟩
              rw [hc] at hbk htk hsl
              obtain ⟨g, hg⟩ : ∃ g, (s.take k).filter (fun c => c != 13) = g := ⟨_, rfl⟩
              rw [hg] at htk hfl ⊢
              have HTK := Lib.hid htk
              clear htk hg hc
              by_cases h13 : c = 13
              · have hf : (((c.toNat : Nat) : Int) != 13) = false := by rw [h13]; rfl
                have H13 := Lib.hid h13
                clear h13
                go_wp2
                go_round
                case rel => exact ⟨k + 1, by omega, by rw [HTK.out, if_pos H13.out, List.append_nil], by go_num⟩
                case measure => simp [intOf]; omega
              · have hf : (((c.toNat : Nat) : Int) != 13) = true := by
                  simp only [bne_iff_ne, ne_eq]
                  intro e
                  exact h13 (UInt8.toNat.inj (Int.ofNat.inj e))
                have H13 := Lib.hid h13
                clear h13
                go_wp2
                go_round
                case rel => exact ⟨k + 1, by omega, by rw [HTK.out, if_neg H13.out], by go_num⟩
                case measure => simp [intOf]; omega
            · obtain rfl : k = s.length := by omega
              rw [List.take_length]
              obtain ⟨z, hz⟩ : ∃ z, s.filter (fun c => c != 13) = z := ⟨_, rfl⟩
              rw [hz] at X2 ⊢
              have hzl : z.length ≤ 4000 := by rw [← hz]; exact Nat.le_trans (List.length_filter_le _ _) (by omega)
              clear hz
              go_wp2_with fail
              refine Calls.mono (X2.out _ (by simp) _) ?_
              rintro e w6 ⟨v6, rfl, hr6, hb_w6⟩
              have hz_w6 := hb_w6.size
              try simp at hz_w6
              have HH_w6 := Lib.hid hb_w6
              have hB_w6 : Below w.heap.size w w6 := Below.trans (by (repeat (first | (with_reducible exact Below.refl _ _) | (with_reducible assumption) | (with_reducible refine Below.drew ?_) | (focus ((with_reducible refine Below.setCell ?_ ?_ _); rotate_left; (first | omega | (simp <;> omega)))) | (focus ((with_reducible refine Below.alloc ?_ ?_ _); rotate_left; (first | omega | (simp <;> omega)))) | exact Below.refl _ _ | assumption | refine Below.drew ?_ | refine Below.alloc ?_ (by first | omega | (simp <;> omega)) _ | refine Below.setCell ?_ (by first | omega | (simp <;> omega)) _))) (hb_w6.mono (by first | omega | (simp <;> omega)))
              clear hb_w6
              try clear hB_w5
              have HR6 := Lib.hid hr6
              clear hr6
              go_wp2_with (first
                | (at_builtin; refine wp_append_row rfl _ _ rfl _ w6.heap.size _ [] (OwnsF.made w6 w6.heap.size (Nat.le_refl _)) rfl ao1 cap1 A (HR1.out.below (HH_w2.out.trans ((HH_w3.out.trans ((HH_w4.out.trans ((HH_w5.out.trans ((HH_w6.out.trans (Below.mono (show Below w6.heap.size w6 _ by (repeat (first | (with_reducible exact Below.refl _ _) | (with_reducible assumption) | (with_reducible refine Below.drew ?_) | (focus ((with_reducible refine Below.setCell ?_ ?_ _); rotate_left; (first | omega | (simp <;> omega)))) | (focus ((with_reducible refine Below.alloc ?_ ?_ _); rotate_left; (first | omega | (simp <;> omega)))) | exact Below.refl _ _ | assumption | refine Below.drew ?_ | refine Below.alloc ?_ (by first | omega | (simp <;> omega)) _ | refine Below.setCell ?_ (by first | omega | (simp <;> omega)) _))) (by (first | omega | (simp <;> omega))))).mono (by (first | omega | (simp <;> omega))))).mono (by (first | omega | (simp <;> omega))))).mono (by (first | omega | (simp <;> omega))))).mono (by (first | omega | (simp <;> omega)))))) rfl (by simp; omega) (by simp) ?_; intro v7 w7 hown7 hb7; have HO7 := Lib.hid hown7; have HB7 := Lib.hid (Below.trans (show Below w6.heap.size w6 _ by (repeat (first | (with_reducible exact Below.refl _ _) | (with_reducible assumption) | (with_reducible refine Below.drew ?_) | (focus ((with_reducible refine Below.setCell ?_ ?_ _); rotate_left; (first | omega | (simp <;> omega)))) | (focus ((with_reducible refine Below.alloc ?_ ?_ _); rotate_left; (first | omega | (simp <;> omega)))) | exact Below.refl _ _ | assumption | refine Below.drew ?_ | refine Below.alloc ?_ (by first | omega | (simp <;> omega)) _ | refine Below.setCell ?_ (by first | omega | (simp <;> omega)) _))) hb7); obtain ⟨ao7, cap7, rfl, i1, i2, _, _⟩ := hown7.reads; clear hown7 hb7)
                | (at_builtin; refine wp_append_row rfl _ _ rfl _ w6.heap.size _ ([] ++ A) HO7.out rfl ao2 cap2 B (HR2.out.below (HH_w3.out.trans ((HH_w4.out.trans ((HH_w5.out.trans ((HH_w6.out.trans (HB7.out.mono (by (first | omega | (simp <;> omega))))).mono (by (first | omega | (simp <;> omega))))).mono (by (first | omega | (simp <;> omega))))).mono (by (first | omega | (simp <;> omega)))))) rfl (by simp; omega) (by have := HB7.out.size; omega) ?_; intro v8 w8 hown8 hb8; have HO8 := Lib.hid hown8.reads; have HB8 := Lib.hid (HB7.out.trans hb8); obtain ⟨ao8, cap8, rfl, i3, i4, _, _⟩ := hown8.reads; clear hown8 hb8)
                | fail)
              have hz8 := HB8.out.size
              have hBw8 := hB_w6.trans (HB8.out.mono (by omega))
              have HW8 := Lib.hid (show ReadsF w8 (.slice ao8 (A.length + B.length) cap8) (A ++ B) from by have := HO8.out; simpa using this)
              have LK := Lib.hid (fun (u1 u2 : Value) (W : World) (h1 : ReadsF W u1 (A ++ B)) (h2 : ReadsF W u2 (A ++ B)) => (show Calls Tryd.prog 11 #[u1, u2] W (fun e w' => e = .returned (.bool true) ∧ Below W.heap.size W w') from by
                have := refLike u1 u2 (A ++ B) (A ++ B) W h1 h2
                rw [show ((A ++ B) == (A ++ B)) = true by simp] at this
                exact this))
              go_wp2_with fail
              refine Calls.mono (head_alive _) ?_
              rintro e w9 ⟨rfl, hb_w9⟩
              have hz_w9 := hb_w9.size
              try simp at hz_w9
              have HH_w9 := Lib.hid hb_w9
              have hB_w9 : Below w.heap.size w w9 := Below.trans (by (repeat (first | (with_reducible exact Below.refl _ _) | (with_reducible assumption) | (with_reducible refine Below.drew ?_) | (focus ((with_reducible refine Below.setCell ?_ ?_ _); rotate_left; (first | omega | (simp <;> omega)))) | (focus ((with_reducible refine Below.alloc ?_ ?_ _); rotate_left; (first | omega | (simp <;> omega)))) | exact Below.refl _ _ | assumption | refine Below.drew ?_ | refine Below.alloc ?_ (by first | omega | (simp <;> omega)) _ | refine Below.setCell ?_ (by first | omega | (simp <;> omega)) _))) (hb_w9.mono (by first | omega | (simp <;> omega)))
              clear hb_w9
              try clear hB_w6
              go_wp2_with fail
              refine Calls.mono (LK.out _ _ _ (HR5.out.below (HH_w6.out.trans ((HB8.out.trans (HH_w9.out.mono (by omega))).mono (by omega)))) (HW8.out.below HH_w9.out)) ?_
              rintro e w10 ⟨rfl, hb_w10⟩
              have hz_w10 := hb_w10.size
              try simp at hz_w10
              have HH_w10 := Lib.hid hb_w10
              have hB_w10 : Below w.heap.size w w10 := Below.trans (by (repeat (first | (with_reducible exact Below.refl _ _) | (with_reducible assumption) | (with_reducible refine Below.drew ?_) | (focus ((with_reducible refine Below.setCell ?_ ?_ _); rotate_left; (first | omega | (simp <;> omega)))) | (focus ((with_reducible refine Below.alloc ?_ ?_ _); rotate_left; (first | omega | (simp <;> omega)))) | exact Below.refl _ _ | assumption | refine Below.drew ?_ | refine Below.alloc ?_ (by first | omega | (simp <;> omega)) _ | refine Below.setCell ?_ (by first | omega | (simp <;> omega)) _))) (hb_w10.mono (by first | omega | (simp <;> omega)))
              clear hb_w10
              try clear hB_w9
              go_wp2_with fail
              refine Calls.mono (LK.out _ _ _ (HR6.out.below (HB8.out.trans ((HH_w9.out.trans (HH_w10.out.mono (by omega))).mono (by omega)))) (HW8.out.below (HH_w9.out.trans (HH_w10.out.mono (by omega))))) ?_
              rintro e w11 ⟨rfl, hb_w11⟩
              have hz_w11 := hb_w11.size
              try simp at hz_w11
              have HH_w11 := Lib.hid hb_w11
              have hB_w11 : Below w.heap.size w w11 := Below.trans (by (repeat (first | (with_reducible exact Below.refl _ _) | (with_reducible assumption) | (with_reducible refine Below.drew ?_) | (focus ((with_reducible refine Below.setCell ?_ ?_ _); rotate_left; (first | omega | (simp <;> omega)))) | (focus ((with_reducible refine Below.alloc ?_ ?_ _); rotate_left; (first | omega | (simp <;> omega)))) | exact Below.refl _ _ | assumption | refine Below.drew ?_ | refine Below.alloc ?_ (by first | omega | (simp <;> omega)) _ | refine Below.setCell ?_ (by first | omega | (simp <;> omega)) _))) (hb_w11.mono (by first | omega | (simp <;> omega)))
              clear hb_w11
              try clear hB_w10
              go_wp2
              go_ret
              exact ⟨ret_bool (by simp), hB_w11⟩
        · have h4i : 4000 < (s.length : Int) + (t.length : Int) := by omega
          go_enter Tryd.func4, Tryd.ntmps4
          go_wp2_with fail
          refine Calls.mono (C0.out) ?_
          rintro e w1 ⟨v1, rfl, hr1, hb_w1⟩
          have hz_w1 := hb_w1.size
          try simp at hz_w1
          have HH_w1 := Lib.hid hb_w1
          have hB_w1 : Below w.heap.size w w1 := Below.trans (by (repeat (first | (with_reducible exact Below.refl _ _) | (with_reducible assumption) | (with_reducible refine Below.drew ?_) | (focus ((with_reducible refine Below.setCell ?_ ?_ _); rotate_left; (first | omega | (simp <;> omega)))) | (focus ((with_reducible refine Below.alloc ?_ ?_ _); rotate_left; (first | omega | (simp <;> omega)))) | exact Below.refl _ _ | assumption | refine Below.drew ?_ | refine Below.alloc ?_ (by first | omega | (simp <;> omega)) _ | refine Below.setCell ?_ (by first | omega | (simp <;> omega)) _))) (hb_w1.mono (by first | omega | (simp <;> omega)))
          clear hb_w1
          try clear hB_w11
          have HR1 := Lib.hid hr1
          obtain ⟨ao1, cap1, rfl, g1, g2, _, _⟩ := hr1
          go_wp2_with fail
          refine Calls.mono (D0.out _ (by (repeat (first | (with_reducible exact Below.refl _ _) | (with_reducible assumption) | (with_reducible refine Below.drew ?_) | (focus ((with_reducible refine Below.setCell ?_ ?_ _); rotate_left; (first | omega | (simp <;> omega)))) | (focus ((with_reducible refine Below.alloc ?_ ?_ _); rotate_left; (first | omega | (simp <;> omega)))) | exact Below.refl _ _ | assumption | refine Below.drew ?_ | refine Below.alloc ?_ (by first | omega | (simp <;> omega)) _ | refine Below.setCell ?_ (by first | omega | (simp <;> omega)) _)))) ?_
          rintro e w2 ⟨v2, rfl, hr2, hb_w2⟩
          have hz_w2 := hb_w2.size
          try simp at hz_w2
          have HH_w2 := Lib.hid hb_w2
          have hB_w2 : Below w.heap.size w w2 := Below.trans (by (repeat (first | (with_reducible exact Below.refl _ _) | (with_reducible assumption) | (with_reducible refine Below.drew ?_) | (focus ((with_reducible refine Below.setCell ?_ ?_ _); rotate_left; (first | omega | (simp <;> omega)))) | (focus ((with_reducible refine Below.alloc ?_ ?_ _); rotate_left; (first | omega | (simp <;> omega)))) | exact Below.refl _ _ | assumption | refine Below.drew ?_ | refine Below.alloc ?_ (by first | omega | (simp <;> omega)) _ | refine Below.setCell ?_ (by first | omega | (simp <;> omega)) _))) (hb_w2.mono (by first | omega | (simp <;> omega)))
          clear hb_w2
          try clear hB_w1
          have HR2 := Lib.hid hr2
          obtain ⟨ao2, cap2, rfl, g3, g4, _, _⟩ := hr2
          go_wp2_with fail
          refine Calls.mono (CA.out _ _ (HR1.out.below HH_w2.out)) ?_
          rintro e w3 ⟨rfl, hb_w3⟩
          have hz_w3 := hb_w3.size
          try simp at hz_w3
          have HH_w3 := Lib.hid hb_w3
          have hB_w3 : Below w.heap.size w w3 := Below.trans (by (repeat (first | (with_reducible exact Below.refl _ _) | (with_reducible assumption) | (with_reducible refine Below.drew ?_) | (focus ((with_reducible refine Below.setCell ?_ ?_ _); rotate_left; (first | omega | (simp <;> omega)))) | (focus ((with_reducible refine Below.alloc ?_ ?_ _); rotate_left; (first | omega | (simp <;> omega)))) | exact Below.refl _ _ | assumption | refine Below.drew ?_ | refine Below.alloc ?_ (by first | omega | (simp <;> omega)) _ | refine Below.setCell ?_ (by first | omega | (simp <;> omega)) _))) (hb_w3.mono (by first | omega | (simp <;> omega)))
          clear hb_w3
          try clear hB_w2
          go_wp2_with fail
          refine Calls.mono (CB.out _ _ (HR2.out.below HH_w3.out)) ?_
          rintro e w4 ⟨rfl, hb_w4⟩
          have hz_w4 := hb_w4.size
          try simp at hz_w4
          have HH_w4 := Lib.hid hb_w4
          have hB_w4 : Below w.heap.size w w4 := Below.trans (by (repeat (first | (with_reducible exact Below.refl _ _) | (with_reducible assumption) | (with_reducible refine Below.drew ?_) | (focus ((with_reducible refine Below.setCell ?_ ?_ _); rotate_left; (first | omega | (simp <;> omega)))) | (focus ((with_reducible refine Below.alloc ?_ ?_ _); rotate_left; (first | omega | (simp <;> omega)))) | exact Below.refl _ _ | assumption | refine Below.drew ?_ | refine Below.alloc ?_ (by first | omega | (simp <;> omega)) _ | refine Below.setCell ?_ (by first | omega | (simp <;> omega)) _))) (hb_w4.mono (by first | omega | (simp <;> omega)))
          clear hb_w4
          try clear hB_w3

          go_wp2_with fail
          refine Calls.mono (head_alive _) ?_
          rintro e w5 ⟨rfl, hb_w5⟩
          have hz_w5 := hb_w5.size
          try simp at hz_w5
          have HH_w5 := Lib.hid hb_w5
          have hB_w5 : Below w.heap.size w w5 := Below.trans (by (repeat (first | (with_reducible exact Below.refl _ _) | (with_reducible assumption) | (with_reducible refine Below.drew ?_) | (focus ((with_reducible refine Below.setCell ?_ ?_ _); rotate_left; (first | omega | (simp <;> omega)))) | (focus ((with_reducible refine Below.alloc ?_ ?_ _); rotate_left; (first | omega | (simp <;> omega)))) | exact Below.refl _ _ | assumption | refine Below.drew ?_ | refine Below.alloc ?_ (by first | omega | (simp <;> omega)) _ | refine Below.setCell ?_ (by first | omega | (simp <;> omega)) _))) (hb_w5.mono (by first | omega | (simp <;> omega)))
          clear hb_w5
          try clear hB_w4
          go_wp2
          go_ret
          exact ⟨ret_bool (by simp), hB_w5⟩
      · have h3i : 40 < (A.length : Int) + (B.length : Int) := by omega
        go_enter Tryd.func4, Tryd.ntmps4
        go_wp2_with fail
        refine Calls.mono (C0.out) ?_
        rintro e w1 ⟨v1, rfl, hr1, hb_w1⟩
        have hz_w1 := hb_w1.size
        try simp at hz_w1
        have HH_w1 := Lib.hid hb_w1
        have hB_w1 : Below w.heap.size w w1 := Below.trans (by (repeat (first | (with_reducible exact Below.refl _ _) | (with_reducible assumption) | (with_reducible refine Below.drew ?_) | (focus ((with_reducible refine Below.setCell ?_ ?_ _); rotate_left; (first | omega | (simp <;> omega)))) | (focus ((with_reducible refine Below.alloc ?_ ?_ _); rotate_left; (first | omega | (simp <;> omega)))) | exact Below.refl _ _ | assumption | refine Below.drew ?_ | refine Below.alloc ?_ (by first | omega | (simp <;> omega)) _ | refine Below.setCell ?_ (by first | omega | (simp <;> omega)) _))) (hb_w1.mono (by first | omega | (simp <;> omega)))
        clear hb_w1
        try clear hB_w5
        have HR1 := Lib.hid hr1
        obtain ⟨ao1, cap1, rfl, g1, g2, _, _⟩ := hr1
        go_wp2_with fail
        refine Calls.mono (D0.out _ (by (repeat (first | (with_reducible exact Below.refl _ _) | (with_reducible assumption) | (with_reducible refine Below.drew ?_) | (focus ((with_reducible refine Below.setCell ?_ ?_ _); rotate_left; (first | omega | (simp <;> omega)))) | (focus ((with_reducible refine Below.alloc ?_ ?_ _); rotate_left; (first | omega | (simp <;> omega)))) | exact Below.refl _ _ | assumption | refine Below.drew ?_ | refine Below.alloc ?_ (by first | omega | (simp <;> omega)) _ | refine Below.setCell ?_ (by first | omega | (simp <;> omega)) _)))) ?_
        rintro e w2 ⟨v2, rfl, hr2, hb_w2⟩
        have hz_w2 := hb_w2.size
        try simp at hz_w2
        have HH_w2 := Lib.hid hb_w2
        have hB_w2 : Below w.heap.size w w2 := Below.trans (by (repeat (first | (with_reducible exact Below.refl _ _) | (with_reducible assumption) | (with_reducible refine Below.drew ?_) | (focus ((with_reducible refine Below.setCell ?_ ?_ _); rotate_left; (first | omega | (simp <;> omega)))) | (focus ((with_reducible refine Below.alloc ?_ ?_ _); rotate_left; (first | omega | (simp <;> omega)))) | exact Below.refl _ _ | assumption | refine Below.drew ?_ | refine Below.alloc ?_ (by first | omega | (simp <;> omega)) _ | refine Below.setCell ?_ (by first | omega | (simp <;> omega)) _))) (hb_w2.mono (by first | omega | (simp <;> omega)))
        clear hb_w2
        try clear hB_w1
        have HR2 := Lib.hid hr2
        obtain ⟨ao2, cap2, rfl, g3, g4, _, _⟩ := hr2
        go_wp2_with fail
        refine Calls.mono (CA.out _ _ (HR1.out.below HH_w2.out)) ?_
        rintro e w3 ⟨rfl, hb_w3⟩
        have hz_w3 := hb_w3.size
        try simp at hz_w3
        have HH_w3 := Lib.hid hb_w3
        have hB_w3 : Below w.heap.size w w3 := Below.trans (by (repeat (first | (with_reducible exact Below.refl _ _) | (with_reducible assumption) | (with_reducible refine Below.drew ?_) | (focus ((with_reducible refine Below.setCell ?_ ?_ _); rotate_left; (first | omega | (simp <;> omega)))) | (focus ((with_reducible refine Below.alloc ?_ ?_ _); rotate_left; (first | omega | (simp <;> omega)))) | exact Below.refl _ _ | assumption | refine Below.drew ?_ | refine Below.alloc ?_ (by first | omega | (simp <;> omega)) _ | refine Below.setCell ?_ (by first | omega | (simp <;> omega)) _))) (hb_w3.mono (by first | omega | (simp <;> omega)))
        clear hb_w3
        try clear hB_w2
        go_wp2_with fail
        refine Calls.mono (CB.out _ _ (HR2.out.below HH_w3.out)) ?_
        rintro e w4 ⟨rfl, hb_w4⟩
        have hz_w4 := hb_w4.size
        try simp at hz_w4
        have HH_w4 := Lib.hid hb_w4
        have hB_w4 : Below w.heap.size w w4 := Below.trans (by (repeat (first | (with_reducible exact Below.refl _ _) | (with_reducible assumption) | (with_reducible refine Below.drew ?_) | (focus ((with_reducible refine Below.setCell ?_ ?_ _); rotate_left; (first | omega | (simp <;> omega)))) | (focus ((with_reducible refine Below.alloc ?_ ?_ _); rotate_left; (first | omega | (simp <;> omega)))) | exact Below.refl _ _ | assumption | refine Below.drew ?_ | refine Below.alloc ?_ (by first | omega | (simp <;> omega)) _ | refine Below.setCell ?_ (by first | omega | (simp <;> omega)) _))) (hb_w4.mono (by first | omega | (simp <;> omega)))
        clear hb_w4
        try clear hB_w3

        go_wp2_with fail
        refine Calls.mono (head_alive _) ?_
        rintro e w5 ⟨rfl, hb_w5⟩
        have hz_w5 := hb_w5.size
        try simp at hz_w5
        have HH_w5 := Lib.hid hb_w5
        have hB_w5 : Below w.heap.size w w5 := Below.trans (by (repeat (first | (with_reducible exact Below.refl _ _) | (with_reducible assumption) | (with_reducible refine Below.drew ?_) | (focus ((with_reducible refine Below.setCell ?_ ?_ _); rotate_left; (first | omega | (simp <;> omega)))) | (focus ((with_reducible refine Below.alloc ?_ ?_ _); rotate_left; (first | omega | (simp <;> omega)))) | exact Below.refl _ _ | assumption | refine Below.drew ?_ | refine Below.alloc ?_ (by first | omega | (simp <;> omega)) _ | refine Below.setCell ?_ (by first | omega | (simp <;> omega)) _))) (hb_w5.mono (by first | omega | (simp <;> omega)))
        clear hb_w5
        try clear hB_w4
        go_wp2
        go_ret
        exact ⟨ret_bool (by simp), hB_w5⟩
    · have hf2 : (e2 != 0) = true := by simpa using h2
      go_enter Tryd.func4, Tryd.ntmps4
      go_wp2_with fail
      refine Calls.mono (C0.out) ?_
      rintro e w1 ⟨v1, rfl, hr1, hb_w1⟩
      have hz_w1 := hb_w1.size
      try simp at hz_w1
      have HH_w1 := Lib.hid hb_w1
      have hB_w1 : Below w.heap.size w w1 := Below.trans (by (repeat (first | (with_reducible exact Below.refl _ _) | (with_reducible assumption) | (with_reducible refine Below.drew ?_) | (focus ((with_reducible refine Below.setCell ?_ ?_ _); rotate_left; (first | omega | (simp <;> omega)))) | (focus ((with_reducible refine Below.alloc ?_ ?_ _); rotate_left; (first | omega | (simp <;> omega)))) | exact Below.refl _ _ | assumption | refine Below.drew ?_ | refine Below.alloc ?_ (by first | omega | (simp <;> omega)) _ | refine Below.setCell ?_ (by first | omega | (simp <;> omega)) _))) (hb_w1.mono (by first | omega | (simp <;> omega)))
      clear hb_w1
      try clear hB_w5
      have HR1 := Lib.hid hr1
      obtain ⟨ao1, cap1, rfl, g1, g2, _, _⟩ := hr1
      go_wp2_with fail
      refine Calls.mono (D0.out _ (by (repeat (first | (with_reducible exact Below.refl _ _) | (with_reducible assumption) | (with_reducible refine Below.drew ?_) | (focus ((with_reducible refine Below.setCell ?_ ?_ _); rotate_left; (first | omega | (simp <;> omega)))) | (focus ((with_reducible refine Below.alloc ?_ ?_ _); rotate_left; (first | omega | (simp <;> omega)))) | exact Below.refl _ _ | assumption | refine Below.drew ?_ | refine Below.alloc ?_ (by first | omega | (simp <;> omega)) _ | refine Below.setCell ?_ (by first | omega | (simp <;> omega)) _)))) ?_
      rintro e w2 ⟨v2, rfl, hr2, hb_w2⟩
      have hz_w2 := hb_w2.size
      try simp at hz_w2
      have HH_w2 := Lib.hid hb_w2
      have hB_w2 : Below w.heap.size w w2 := Below.trans (by (repeat (first | (with_reducible exact Below.refl _ _) | (with_reducible assumption) | (with_reducible refine Below.drew ?_) | (focus ((with_reducible refine Below.setCell ?_ ?_ _); rotate_left; (first | omega | (simp <;> omega)))) | (focus ((with_reducible refine Below.alloc ?_ ?_ _); rotate_left; (first | omega | (simp <;> omega)))) | exact Below.refl _ _ | assumption | refine Below.drew ?_ | refine Below.alloc ?_ (by first | omega | (simp <;> omega)) _ | refine Below.setCell ?_ (by first | omega | (simp <;> omega)) _))) (hb_w2.mono (by first | omega | (simp <;> omega)))
      clear hb_w2
      try clear hB_w1
      have HR2 := Lib.hid hr2
      obtain ⟨ao2, cap2, rfl, g3, g4, _, _⟩ := hr2
      go_wp2_with fail
      refine Calls.mono (CA.out _ _ (HR1.out.below HH_w2.out)) ?_
      rintro e w3 ⟨rfl, hb_w3⟩
      have hz_w3 := hb_w3.size
      try simp at hz_w3
      have HH_w3 := Lib.hid hb_w3
      have hB_w3 : Below w.heap.size w w3 := Below.trans (by (repeat (first | (with_reducible exact Below.refl _ _) | (with_reducible assumption) | (with_reducible refine Below.drew ?_) | (focus ((with_reducible refine Below.setCell ?_ ?_ _); rotate_left; (first | omega | (simp <;> omega)))) | (focus ((with_reducible refine Below.alloc ?_ ?_ _); rotate_left; (first | omega | (simp <;> omega)))) | exact Below.refl _ _ | assumption | refine Below.drew ?_ | refine Below.alloc ?_ (by first | omega | (simp <;> omega)) _ | refine Below.setCell ?_ (by first | omega | (simp <;> omega)) _))) (hb_w3.mono (by first | omega | (simp <;> omega)))
      clear hb_w3
      try clear hB_w2
      go_wp2_with fail
      refine Calls.mono (CB.out _ _ (HR2.out.below HH_w3.out)) ?_
      rintro e w4 ⟨rfl, hb_w4⟩
      have hz_w4 := hb_w4.size
      try simp at hz_w4
      have HH_w4 := Lib.hid hb_w4
      have hB_w4 : Below w.heap.size w w4 := Below.trans (by (repeat (first | (with_reducible exact Below.refl _ _) | (with_reducible assumption) | (with_reducible refine Below.drew ?_) | (focus ((with_reducible refine Below.setCell ?_ ?_ _); rotate_left; (first | omega | (simp <;> omega)))) | (focus ((with_reducible refine Below.alloc ?_ ?_ _); rotate_left; (first | omega | (simp <;> omega)))) | exact Below.refl _ _ | assumption | refine Below.drew ?_ | refine Below.alloc ?_ (by first | omega | (simp <;> omega)) _ | refine Below.setCell ?_ (by first | omega | (simp <;> omega)) _))) (hb_w4.mono (by first | omega | (simp <;> omega)))
      clear hb_w4
      try clear hB_w3

      go_wp2_with fail
      refine Calls.mono (head_alive _) ?_
      rintro e w5 ⟨rfl, hb_w5⟩
      have hz_w5 := hb_w5.size
      try simp at hz_w5
      have HH_w5 := Lib.hid hb_w5
      have hB_w5 : Below w.heap.size w w5 := Below.trans (by (repeat (first | (with_reducible exact Below.refl _ _) | (with_reducible assumption) | (with_reducible refine Below.drew ?_) | (focus ((with_reducible refine Below.setCell ?_ ?_ _); rotate_left; (first | omega | (simp <;> omega)))) | (focus ((with_reducible refine Below.alloc ?_ ?_ _); rotate_left; (first | omega | (simp <;> omega)))) | exact Below.refl _ _ | assumption | refine Below.drew ?_ | refine Below.alloc ?_ (by first | omega | (simp <;> omega)) _ | refine Below.setCell ?_ (by first | omega | (simp <;> omega)) _))) (hb_w5.mono (by first | omega | (simp <;> omega)))
      clear hb_w5
      try clear hB_w4
      go_wp2
      go_ret
      exact ⟨ret_bool (by simp), hB_w5⟩
  · have hf1 : (e1 != 0) = true := by simpa using h1
    go_enter Tryd.func4, Tryd.ntmps4
    go_wp2_with fail
    refine Calls.mono (C0.out) ?_
    rintro e w1 ⟨v1, rfl, hr1, hb_w1⟩
    have hz_w1 := hb_w1.size
    try simp at hz_w1
    have HH_w1 := Lib.hid hb_w1
    have hB_w1 : Below w.heap.size w w1 := Below.trans (by (repeat (first | (with_reducible exact Below.refl _ _) | (with_reducible assumption) | (with_reducible refine Below.drew ?_) | (focus ((with_reducible refine Below.setCell ?_ ?_ _); rotate_left; (first | omega | (simp <;> omega)))) | (focus ((with_reducible refine Below.alloc ?_ ?_ _); rotate_left; (first | omega | (simp <;> omega)))) | exact Below.refl _ _ | assumption | refine Below.drew ?_ | refine Below.alloc ?_ (by first | omega | (simp <;> omega)) _ | refine Below.setCell ?_ (by first | omega | (simp <;> omega)) _))) (hb_w1.mono (by first | omega | (simp <;> omega)))
    clear hb_w1
    try clear hB_w5
    have HR1 := Lib.hid hr1
    obtain ⟨ao1, cap1, rfl, g1, g2, _, _⟩ := hr1
    go_wp2_with fail
    refine Calls.mono (D0.out _ (by (repeat (first | (with_reducible exact Below.refl _ _) | (with_reducible assumption) | (with_reducible refine Below.drew ?_) | (focus ((with_reducible refine Below.setCell ?_ ?_ _); rotate_left; (first | omega | (simp <;> omega)))) | (focus ((with_reducible refine Below.alloc ?_ ?_ _); rotate_left; (first | omega | (simp <;> omega)))) | exact Below.refl _ _ | assumption | refine Below.drew ?_ | refine Below.alloc ?_ (by first | omega | (simp <;> omega)) _ | refine Below.setCell ?_ (by first | omega | (simp <;> omega)) _)))) ?_
    rintro e w2 ⟨v2, rfl, hr2, hb_w2⟩
    have hz_w2 := hb_w2.size
    try simp at hz_w2
    have HH_w2 := Lib.hid hb_w2
    have hB_w2 : Below w.heap.size w w2 := Below.trans (by (repeat (first | (with_reducible exact Below.refl _ _) | (with_reducible assumption) | (with_reducible refine Below.drew ?_) | (focus ((with_reducible refine Below.setCell ?_ ?_ _); rotate_left; (first | omega | (simp <;> omega)))) | (focus ((with_reducible refine Below.alloc ?_ ?_ _); rotate_left; (first | omega | (simp <;> omega)))) | exact Below.refl _ _ | assumption | refine Below.drew ?_ | refine Below.alloc ?_ (by first | omega | (simp <;> omega)) _ | refine Below.setCell ?_ (by first | omega | (simp <;> omega)) _))) (hb_w2.mono (by first | omega | (simp <;> omega)))
    clear hb_w2
    try clear hB_w1
    have HR2 := Lib.hid hr2
    obtain ⟨ao2, cap2, rfl, g3, g4, _, _⟩ := hr2
    go_wp2_with fail
    refine Calls.mono (CA.out _ _ (HR1.out.below HH_w2.out)) ?_
    rintro e w3 ⟨rfl, hb_w3⟩
    have hz_w3 := hb_w3.size
    try simp at hz_w3
    have HH_w3 := Lib.hid hb_w3
    have hB_w3 : Below w.heap.size w w3 := Below.trans (by (repeat (first | (with_reducible exact Below.refl _ _) | (with_reducible assumption) | (with_reducible refine Below.drew ?_) | (focus ((with_reducible refine Below.setCell ?_ ?_ _); rotate_left; (first | omega | (simp <;> omega)))) | (focus ((with_reducible refine Below.alloc ?_ ?_ _); rotate_left; (first | omega | (simp <;> omega)))) | exact Below.refl _ _ | assumption | refine Below.drew ?_ | refine Below.alloc ?_ (by first | omega | (simp <;> omega)) _ | refine Below.setCell ?_ (by first | omega | (simp <;> omega)) _))) (hb_w3.mono (by first | omega | (simp <;> omega)))
    clear hb_w3
    try clear hB_w2
    go_wp2_with fail
    refine Calls.mono (CB.out _ _ (HR2.out.below HH_w3.out)) ?_
    rintro e w4 ⟨rfl, hb_w4⟩
    have hz_w4 := hb_w4.size
    try simp at hz_w4
    have HH_w4 := Lib.hid hb_w4
    have hB_w4 : Below w.heap.size w w4 := Below.trans (by (repeat (first | (with_reducible exact Below.refl _ _) | (with_reducible assumption) | (with_reducible refine Below.drew ?_) | (focus ((with_reducible refine Below.setCell ?_ ?_ _); rotate_left; (first | omega | (simp <;> omega)))) | (focus ((with_reducible refine Below.alloc ?_ ?_ _); rotate_left; (first | omega | (simp <;> omega)))) | exact Below.refl _ _ | assumption | refine Below.drew ?_ | refine Below.alloc ?_ (by first | omega | (simp <;> omega)) _ | refine Below.setCell ?_ (by first | omega | (simp <;> omega)) _))) (hb_w4.mono (by first | omega | (simp <;> omega)))
    clear hb_w4
    try clear hB_w3

    go_wp2_with fail
    refine Calls.mono (head_alive _) ?_
    rintro e w5 ⟨rfl, hb_w5⟩
    have hz_w5 := hb_w5.size
    try simp at hz_w5
    have HH_w5 := Lib.hid hb_w5
    have hB_w5 : Below w.heap.size w w5 := Below.trans (by (repeat (first | (with_reducible exact Below.refl _ _) | (with_reducible assumption) | (with_reducible refine Below.drew ?_) | (focus ((with_reducible refine Below.setCell ?_ ?_ _); rotate_left; (first | omega | (simp <;> omega)))) | (focus ((with_reducible refine Below.alloc ?_ ?_ _); rotate_left; (first | omega | (simp <;> omega)))) | exact Below.refl _ _ | assumption | refine Below.drew ?_ | refine Below.alloc ?_ (by first | omega | (simp <;> omega)) _ | refine Below.setCell ?_ (by first | omega | (simp <;> omega)) _))) (hb_w5.mono (by first | omega | (simp <;> omega)))
    clear hb_w5
    try clear hB_w4
    go_wp2
    go_ret
    exact ⟨ret_bool (by simp), hB_w5⟩
end Go.Proofs.YtpklbelhdfkjpaaDoor
