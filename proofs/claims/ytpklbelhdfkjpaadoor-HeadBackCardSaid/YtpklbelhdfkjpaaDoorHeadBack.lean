/- The law HeadBack: its walk. -/
import Derived.Test.YtpklbelhdfkjpaaDoorHeadLaw
import Derived.Deep.RegionWith
import Derived.Deep.DeepCutAuto
namespace Go.Proofs.YtpklbelhdfkjpaaDoor
open Go.RowKit Go.Sort Go.Shelf
set_option linter.unusedVariables false

set_option maxHeartbeats 3200000 in
set_option maxRecDepth 100000 in
theorem headBack_any (v : Value) (L : List (List Value)) (b : ByteArray) (w : World) (hv : RowsIn w 2 v L ∧ ∀ c ∈ L, AllSh [.str, .str] c) (k1 : b.size ≤ maxLen) (_hL : True) :
    Calls Tryd.prog 3 #[v, .string b] w fun e w' => e = .returned (.bool true) ∧ Below w.heap.size w w' := by
  obtain ⟨xs, hr0, hxl⟩ := reads_inF hv
  have C0 := Lib.hid (fun W (hb : Below w.heap.size w W) => few v xs W (hr0.below hb) hxl)
  clear hr0 hxl hv
  obtain ⟨T, hT⟩ : ∃ T, fewL xs = T := ⟨_, rfl⟩
  have hTs : ∀ f ∈ T, ShortF f := by rw [← hT]; exact fewL_short xs
  rw [hT] at C0
  obtain ⟨l0, rfl⟩ := S_of b
  rw [S_size] at k1
  have hm : maxLen = 9223372036854775807 := rfl
  rw [hm] at k1
  obtain ⟨k, hk, hk1, hk2⟩ : ∃ k : Nat, min (l0.length : Int) 5000 = k ∧ k ≤ l0.length ∧ k ≤ 5000 := ⟨min l0.length 5000, by omega, by omega, by omega⟩
  obtain ⟨s, hs⟩ : ∃ s, l0.take k = s := ⟨_, rfl⟩
  have hsl : s.length ≤ 5000 := by rw [← hs, List.length_take]; omega
  have hs2 : (l0.take k).drop 0 = s := hs
  have CPr := Lib.hid (fun (u : Value) (W : World) (hr : ReadsF W u T) => headPrint_c u T W hr hTs)
  have hback := Lib.hid (fun h => head_back (L := T) h)
  have hplen := Lib.hid (fun h => print_len (L := T) h)
  obtain ⟨⟨t, e1⟩, hp⟩ : ∃ x, headPrint T = x := ⟨_, rfl⟩
  rw [hp] at CPr hback hplen
  simp only at CPr hback hplen
  have CPa := Lib.hid (fun (h : e1 = 0) (W : World) => headParse_c t (by have := hplen.out h; omega) W)
  have CPs := Lib.hid (fun (W : World) => headParse_c s (by omega) W)
  have hright := Lib.hid (headParse_right s)
  have hshort := Lib.hid (headParse_short s)
  obtain ⟨⟨M, eM⟩, hM⟩ : ∃ x, headParse s = x := ⟨_, rfl⟩
  rw [hM] at CPs hright hshort
  simp only at CPs hright hshort
  have CPm := Lib.hid (fun (u : Value) (W : World) (hr : ReadsF W u M) => headPrint_c u M W hr hshort.out)
  have hprr := Lib.hid (fun h => print_right (L := M) h)
  have hback2 := Lib.hid (fun h => head_back (L := M) h)
  have hplen2 := Lib.hid (fun h => print_len (L := M) h)
  obtain ⟨⟨t2, e2⟩, hp2⟩ : ∃ x, headPrint M = x := ⟨_, rfl⟩
  rw [hp2] at CPm hprr hback2 hplen2
  simp only at CPm hprr hback2 hplen2
  have CPb := Lib.hid (fun (h : e2 = 0) (W : World) => headParse_c t2 (by have := hplen2.out h; omega) W)
  clear hT hm hTs hp hM hp2
  have TT := Lib.hid (show (T == T) = true by simp)
  have MM := Lib.hid (show (M == M) = true by simp)
  by_cases h1 : e1 = 0
  · subst h1
    rw [hback.out rfl] at CPa
    by_cases hM0 : eM = 0
    · subst hM0
      have hrt := Lib.hid (hright.out.1 rfl)
      rcases hprr.out hrt.out with h2 | h2
      · subst h2
        rw [hback2.out rfl] at CPb

        go_enter Tryd.func3, Tryd.ntmps3
        go_upto_region 1 with fail
        go_cut [0, 1] (fun lv sv wx => sv = .string (S s) ∧ ReadsF wx lv T ∧ Below w.heap.size w wx)
        case first =>
          as_aux_lemma =>
            go_region_with (go_at_call 8; refine (C0.out _ (by (repeat (first | (with_reducible exact Below.refl _ _) | (with_reducible assumption) | (with_reducible refine Below.drew ?_) | (focus ((with_reducible refine Below.setCell ?_ ?_ _); rotate_left; (first | omega | (simp <;> omega)))) | (focus ((with_reducible refine Below.alloc ?_ ?_ _); rotate_left; (first | omega | (simp <;> omega)))) | exact Below.refl _ _ | assumption | refine Below.drew ?_ | refine Below.alloc ?_ (by first | omega | (simp <;> omega)) _ | refine Below.setCell ?_ (by first | omega | (simp <;> omega)) _)))).mono ?_; rintro e w1 ⟨v', rfl, hr, hb1⟩; have HB1 := Lib.hid (Below.trans (show Below w.heap.size w _ by (repeat (first | (with_reducible exact Below.refl _ _) | (with_reducible assumption) | (with_reducible refine Below.drew ?_) | (focus ((with_reducible refine Below.setCell ?_ ?_ _); rotate_left; (first | omega | (simp <;> omega)))) | (focus ((with_reducible refine Below.alloc ?_ ?_ _); rotate_left; (first | omega | (simp <;> omega)))) | exact Below.refl _ _ | assumption | refine Below.drew ?_ | refine Below.alloc ?_ (by first | omega | (simp <;> omega)) _ | refine Below.setCell ?_ (by first | omega | (simp <;> omega)) _))) (hb1.mono (by (first | omega | (simp <;> omega))))); have HR := Lib.hid hr; clear hb1)
            all_goals (go_wp2_with fail; go_meet; exact ⟨by simp [go_sem, *], HR.out, HB1.out⟩)
        case rest =>
          obtain ⟨rfl, hr, hb1⟩ := hcut
          obtain ⟨w1, hw1⟩ : ∃ x, x = wc := ⟨_, rfl⟩
          rw [← hw1] at hr hb1 ⊢
          clear hw1
          have HB1 := Lib.hid hb1
          have HR := Lib.hid hr
          obtain ⟨ao, cap, rfl, _⟩ := hr
          have hz1 := HB1.out.size
          clear hb1
          go_wp2_with fail
          refine Calls.mono (CPr.out _ _ HR.out) ?_
          rintro e w2 ⟨rfl, hb_w2⟩
          have hz_w2 := hb_w2.size
          try simp at hz_w2
          have HH_w2 := Lib.hid hb_w2
          have hB_w2 : Below w1.heap.size w1 w2 := Below.trans (by (repeat (first | (with_reducible exact Below.refl _ _) | (with_reducible assumption) | (with_reducible refine Below.drew ?_) | (focus ((with_reducible refine Below.setCell ?_ ?_ _); rotate_left; (first | omega | (simp <;> omega)))) | (focus ((with_reducible refine Below.alloc ?_ ?_ _); rotate_left; (first | omega | (simp <;> omega)))) | exact Below.refl _ _ | assumption | refine Below.drew ?_ | refine Below.alloc ?_ (by first | omega | (simp <;> omega)) _ | refine Below.setCell ?_ (by first | omega | (simp <;> omega)) _))) (hb_w2.mono (by first | omega | (simp <;> omega)))
          clear hb_w2

          go_wp2_with fail
          refine Calls.mono (CPa.out (by trivial) _) ?_
          rintro e w3 ⟨v3, rfl, hr3, hb_w3⟩
          have hz_w3 := hb_w3.size
          try simp at hz_w3
          have HH_w3 := Lib.hid hb_w3
          have hB_w3 : Below w1.heap.size w1 w3 := Below.trans (by (repeat (first | (with_reducible exact Below.refl _ _) | (with_reducible assumption) | (with_reducible refine Below.drew ?_) | (focus ((with_reducible refine Below.setCell ?_ ?_ _); rotate_left; (first | omega | (simp <;> omega)))) | (focus ((with_reducible refine Below.alloc ?_ ?_ _); rotate_left; (first | omega | (simp <;> omega)))) | exact Below.refl _ _ | assumption | refine Below.drew ?_ | refine Below.alloc ?_ (by first | omega | (simp <;> omega)) _ | refine Below.setCell ?_ (by first | omega | (simp <;> omega)) _))) (hb_w3.mono (by first | omega | (simp <;> omega)))
          clear hb_w3
          try clear hB_w2
          have HR3 := Lib.hid hr3
          clear hr3
          go_wp2_with fail
          refine Calls.mono (TT.out ▸ refLike _ _ T T _ (HR.out.below hB_w3) HR3.out) ?_
          rintro e w4 ⟨rfl, hb_w4⟩
          have hz_w4 := hb_w4.size
          try simp at hz_w4
          have HH_w4 := Lib.hid hb_w4
          have hB_w4 : Below w1.heap.size w1 w4 := Below.trans (by (repeat (first | (with_reducible exact Below.refl _ _) | (with_reducible assumption) | (with_reducible refine Below.drew ?_) | (focus ((with_reducible refine Below.setCell ?_ ?_ _); rotate_left; (first | omega | (simp <;> omega)))) | (focus ((with_reducible refine Below.alloc ?_ ?_ _); rotate_left; (first | omega | (simp <;> omega)))) | exact Below.refl _ _ | assumption | refine Below.drew ?_ | refine Below.alloc ?_ (by first | omega | (simp <;> omega)) _ | refine Below.setCell ?_ (by first | omega | (simp <;> omega)) _))) (hb_w4.mono (by first | omega | (simp <;> omega)))
          clear hb_w4
          try clear hB_w3

          go_wp2_with fail
          refine Calls.mono (CPs.out _) ?_
          rintro e w5 ⟨v5, rfl, hr5, hb_w5⟩
          have hz_w5 := hb_w5.size
          try simp at hz_w5
          have HH_w5 := Lib.hid hb_w5
          have hB_w5 : Below w1.heap.size w1 w5 := Below.trans (by (repeat (first | (with_reducible exact Below.refl _ _) | (with_reducible assumption) | (with_reducible refine Below.drew ?_) | (focus ((with_reducible refine Below.setCell ?_ ?_ _); rotate_left; (first | omega | (simp <;> omega)))) | (focus ((with_reducible refine Below.alloc ?_ ?_ _); rotate_left; (first | omega | (simp <;> omega)))) | exact Below.refl _ _ | assumption | refine Below.drew ?_ | refine Below.alloc ?_ (by first | omega | (simp <;> omega)) _ | refine Below.setCell ?_ (by first | omega | (simp <;> omega)) _))) (hb_w5.mono (by first | omega | (simp <;> omega)))
          clear hb_w5
          try clear hB_w4
          have HR5 := Lib.hid hr5
          clear hr5
          go_wp2_with fail
          refine Calls.mono (CPm.out _ _ HR5.out) ?_
          rintro e w6 ⟨rfl, hb_w6⟩
          have hz_w6 := hb_w6.size
          try simp at hz_w6
          have HH_w6 := Lib.hid hb_w6
          have hB_w6 : Below w1.heap.size w1 w6 := Below.trans (by (repeat (first | (with_reducible exact Below.refl _ _) | (with_reducible assumption) | (with_reducible refine Below.drew ?_) | (focus ((with_reducible refine Below.setCell ?_ ?_ _); rotate_left; (first | omega | (simp <;> omega)))) | (focus ((with_reducible refine Below.alloc ?_ ?_ _); rotate_left; (first | omega | (simp <;> omega)))) | exact Below.refl _ _ | assumption | refine Below.drew ?_ | refine Below.alloc ?_ (by first | omega | (simp <;> omega)) _ | refine Below.setCell ?_ (by first | omega | (simp <;> omega)) _))) (hb_w6.mono (by first | omega | (simp <;> omega)))
          clear hb_w6
          try clear hB_w5
          go_wp2_with fail
          refine Calls.mono (CPb.out (by trivial) _) ?_
          rintro e w7 ⟨v7, rfl, hr7, hb_w7⟩
          have hz_w7 := hb_w7.size
          try simp at hz_w7
          have HH_w7 := Lib.hid hb_w7
          have hB_w7 : Below w1.heap.size w1 w7 := Below.trans (by (repeat (first | (with_reducible exact Below.refl _ _) | (with_reducible assumption) | (with_reducible refine Below.drew ?_) | (focus ((with_reducible refine Below.setCell ?_ ?_ _); rotate_left; (first | omega | (simp <;> omega)))) | (focus ((with_reducible refine Below.alloc ?_ ?_ _); rotate_left; (first | omega | (simp <;> omega)))) | exact Below.refl _ _ | assumption | refine Below.drew ?_ | refine Below.alloc ?_ (by first | omega | (simp <;> omega)) _ | refine Below.setCell ?_ (by first | omega | (simp <;> omega)) _))) (hb_w7.mono (by first | omega | (simp <;> omega)))
          clear hb_w7
          try clear hB_w6
          have HR7 := Lib.hid hr7
          clear hr7
          go_wp2_with fail
          refine Calls.mono (head_alive _) ?_
          rintro e w8 ⟨rfl, hb_w8⟩
          have hz_w8 := hb_w8.size
          try simp at hz_w8
          have HH_w8 := Lib.hid hb_w8
          have hB_w8 : Below w1.heap.size w1 w8 := Below.trans (by (repeat (first | (with_reducible exact Below.refl _ _) | (with_reducible assumption) | (with_reducible refine Below.drew ?_) | (focus ((with_reducible refine Below.setCell ?_ ?_ _); rotate_left; (first | omega | (simp <;> omega)))) | (focus ((with_reducible refine Below.alloc ?_ ?_ _); rotate_left; (first | omega | (simp <;> omega)))) | exact Below.refl _ _ | assumption | refine Below.drew ?_ | refine Below.alloc ?_ (by first | omega | (simp <;> omega)) _ | refine Below.setCell ?_ (by first | omega | (simp <;> omega)) _))) (hb_w8.mono (by first | omega | (simp <;> omega)))
          clear hb_w8
          try clear hB_w7
          go_wp2_with fail
          refine Calls.mono (MM.out ▸ refLike _ _ M M _ (HR5.out.below (HH_w6.out.trans ((HH_w7.out.trans (HH_w8.out.mono (by omega))).mono (by omega)))) (HR7.out.below HH_w8.out)) ?_
          rintro e w9 ⟨rfl, hb_w9⟩
          have hz_w9 := hb_w9.size
          try simp at hz_w9
          have HH_w9 := Lib.hid hb_w9
          have hB_w9 : Below w1.heap.size w1 w9 := Below.trans (by (repeat (first | (with_reducible exact Below.refl _ _) | (with_reducible assumption) | (with_reducible refine Below.drew ?_) | (focus ((with_reducible refine Below.setCell ?_ ?_ _); rotate_left; (first | omega | (simp <;> omega)))) | (focus ((with_reducible refine Below.alloc ?_ ?_ _); rotate_left; (first | omega | (simp <;> omega)))) | exact Below.refl _ _ | assumption | refine Below.drew ?_ | refine Below.alloc ?_ (by first | omega | (simp <;> omega)) _ | refine Below.setCell ?_ (by first | omega | (simp <;> omega)) _))) (hb_w9.mono (by first | omega | (simp <;> omega)))
          clear hb_w9
          try clear hB_w8
          go_wp2
          go_ret
          exact ⟨ret_bool (by simp), HB1.out.trans (hB_w9.mono hz1)⟩
      · subst h2

        go_enter Tryd.func3, Tryd.ntmps3
        go_upto_region 1 with fail
        go_cut [0, 1] (fun lv sv wx => sv = .string (S s) ∧ ReadsF wx lv T ∧ Below w.heap.size w wx)
        case first =>
          as_aux_lemma =>
            go_region_with (go_at_call 8; refine (C0.out _ (by (repeat (first | (with_reducible exact Below.refl _ _) | (with_reducible assumption) | (with_reducible refine Below.drew ?_) | (focus ((with_reducible refine Below.setCell ?_ ?_ _); rotate_left; (first | omega | (simp <;> omega)))) | (focus ((with_reducible refine Below.alloc ?_ ?_ _); rotate_left; (first | omega | (simp <;> omega)))) | exact Below.refl _ _ | assumption | refine Below.drew ?_ | refine Below.alloc ?_ (by first | omega | (simp <;> omega)) _ | refine Below.setCell ?_ (by first | omega | (simp <;> omega)) _)))).mono ?_; rintro e w1 ⟨v', rfl, hr, hb1⟩; have HB1 := Lib.hid (Below.trans (show Below w.heap.size w _ by (repeat (first | (with_reducible exact Below.refl _ _) | (with_reducible assumption) | (with_reducible refine Below.drew ?_) | (focus ((with_reducible refine Below.setCell ?_ ?_ _); rotate_left; (first | omega | (simp <;> omega)))) | (focus ((with_reducible refine Below.alloc ?_ ?_ _); rotate_left; (first | omega | (simp <;> omega)))) | exact Below.refl _ _ | assumption | refine Below.drew ?_ | refine Below.alloc ?_ (by first | omega | (simp <;> omega)) _ | refine Below.setCell ?_ (by first | omega | (simp <;> omega)) _))) (hb1.mono (by (first | omega | (simp <;> omega))))); have HR := Lib.hid hr; clear hb1)
            all_goals (go_wp2_with fail; go_meet; exact ⟨by simp [go_sem, *], HR.out, HB1.out⟩)
        case rest =>
          obtain ⟨rfl, hr, hb1⟩ := hcut
          obtain ⟨w1, hw1⟩ : ∃ x, x = wc := ⟨_, rfl⟩
          rw [← hw1] at hr hb1 ⊢
          clear hw1
          have HB1 := Lib.hid hb1
          have HR := Lib.hid hr
          obtain ⟨ao, cap, rfl, _⟩ := hr
          have hz1 := HB1.out.size
          clear hb1
          go_wp2_with fail
          refine Calls.mono (CPr.out _ _ HR.out) ?_
          rintro e w2 ⟨rfl, hb_w2⟩
          have hz_w2 := hb_w2.size
          try simp at hz_w2
          have HH_w2 := Lib.hid hb_w2
          have hB_w2 : Below w1.heap.size w1 w2 := Below.trans (by (repeat (first | (with_reducible exact Below.refl _ _) | (with_reducible assumption) | (with_reducible refine Below.drew ?_) | (focus ((with_reducible refine Below.setCell ?_ ?_ _); rotate_left; (first | omega | (simp <;> omega)))) | (focus ((with_reducible refine Below.alloc ?_ ?_ _); rotate_left; (first | omega | (simp <;> omega)))) | exact Below.refl _ _ | assumption | refine Below.drew ?_ | refine Below.alloc ?_ (by first | omega | (simp <;> omega)) _ | refine Below.setCell ?_ (by first | omega | (simp <;> omega)) _))) (hb_w2.mono (by first | omega | (simp <;> omega)))
          clear hb_w2
          try clear hB_w9

          go_wp2_with fail
          refine Calls.mono (CPa.out (by trivial) _) ?_
          rintro e w3 ⟨v3, rfl, hr3, hb_w3⟩
          have hz_w3 := hb_w3.size
          try simp at hz_w3
          have HH_w3 := Lib.hid hb_w3
          have hB_w3 : Below w1.heap.size w1 w3 := Below.trans (by (repeat (first | (with_reducible exact Below.refl _ _) | (with_reducible assumption) | (with_reducible refine Below.drew ?_) | (focus ((with_reducible refine Below.setCell ?_ ?_ _); rotate_left; (first | omega | (simp <;> omega)))) | (focus ((with_reducible refine Below.alloc ?_ ?_ _); rotate_left; (first | omega | (simp <;> omega)))) | exact Below.refl _ _ | assumption | refine Below.drew ?_ | refine Below.alloc ?_ (by first | omega | (simp <;> omega)) _ | refine Below.setCell ?_ (by first | omega | (simp <;> omega)) _))) (hb_w3.mono (by first | omega | (simp <;> omega)))
          clear hb_w3
          try clear hB_w2
          have HR3 := Lib.hid hr3
          clear hr3
          go_wp2_with fail
          refine Calls.mono (TT.out ▸ refLike _ _ T T _ (HR.out.below hB_w3) HR3.out) ?_
          rintro e w4 ⟨rfl, hb_w4⟩
          have hz_w4 := hb_w4.size
          try simp at hz_w4
          have HH_w4 := Lib.hid hb_w4
          have hB_w4 : Below w1.heap.size w1 w4 := Below.trans (by (repeat (first | (with_reducible exact Below.refl _ _) | (with_reducible assumption) | (with_reducible refine Below.drew ?_) | (focus ((with_reducible refine Below.setCell ?_ ?_ _); rotate_left; (first | omega | (simp <;> omega)))) | (focus ((with_reducible refine Below.alloc ?_ ?_ _); rotate_left; (first | omega | (simp <;> omega)))) | exact Below.refl _ _ | assumption | refine Below.drew ?_ | refine Below.alloc ?_ (by first | omega | (simp <;> omega)) _ | refine Below.setCell ?_ (by first | omega | (simp <;> omega)) _))) (hb_w4.mono (by first | omega | (simp <;> omega)))
          clear hb_w4
          try clear hB_w3

          go_wp2_with fail
          refine Calls.mono (CPs.out _) ?_
          rintro e w5 ⟨v5, rfl, hr5, hb_w5⟩
          have hz_w5 := hb_w5.size
          try simp at hz_w5
          have HH_w5 := Lib.hid hb_w5
          have hB_w5 : Below w1.heap.size w1 w5 := Below.trans (by (repeat (first | (with_reducible exact Below.refl _ _) | (with_reducible assumption) | (with_reducible refine Below.drew ?_) | (focus ((with_reducible refine Below.setCell ?_ ?_ _); rotate_left; (first | omega | (simp <;> omega)))) | (focus ((with_reducible refine Below.alloc ?_ ?_ _); rotate_left; (first | omega | (simp <;> omega)))) | exact Below.refl _ _ | assumption | refine Below.drew ?_ | refine Below.alloc ?_ (by first | omega | (simp <;> omega)) _ | refine Below.setCell ?_ (by first | omega | (simp <;> omega)) _))) (hb_w5.mono (by first | omega | (simp <;> omega)))
          clear hb_w5
          try clear hB_w4
          have HR5 := Lib.hid hr5
          clear hr5
          go_wp2_with fail
          refine Calls.mono (CPm.out _ _ HR5.out) ?_
          rintro e w6 ⟨rfl, hb_w6⟩
          have hz_w6 := hb_w6.size
          try simp at hz_w6
          have HH_w6 := Lib.hid hb_w6
          have hB_w6 : Below w1.heap.size w1 w6 := Below.trans (by (repeat (first | (with_reducible exact Below.refl _ _) | (with_reducible assumption) | (with_reducible refine Below.drew ?_) | (focus ((with_reducible refine Below.setCell ?_ ?_ _); rotate_left; (first | omega | (simp <;> omega)))) | (focus ((with_reducible refine Below.alloc ?_ ?_ _); rotate_left; (first | omega | (simp <;> omega)))) | exact Below.refl _ _ | assumption | refine Below.drew ?_ | refine Below.alloc ?_ (by first | omega | (simp <;> omega)) _ | refine Below.setCell ?_ (by first | omega | (simp <;> omega)) _))) (hb_w6.mono (by first | omega | (simp <;> omega)))
          clear hb_w6
          try clear hB_w5
          go_wp2_with fail
          refine Calls.mono (head_alive _) ?_
          rintro e w7 ⟨rfl, hb_w7⟩
          have hz_w7 := hb_w7.size
          try simp at hz_w7
          have HH_w7 := Lib.hid hb_w7
          have hB_w7 : Below w1.heap.size w1 w7 := Below.trans (by (repeat (first | (with_reducible exact Below.refl _ _) | (with_reducible assumption) | (with_reducible refine Below.drew ?_) | (focus ((with_reducible refine Below.setCell ?_ ?_ _); rotate_left; (first | omega | (simp <;> omega)))) | (focus ((with_reducible refine Below.alloc ?_ ?_ _); rotate_left; (first | omega | (simp <;> omega)))) | exact Below.refl _ _ | assumption | refine Below.drew ?_ | refine Below.alloc ?_ (by first | omega | (simp <;> omega)) _ | refine Below.setCell ?_ (by first | omega | (simp <;> omega)) _))) (hb_w7.mono (by first | omega | (simp <;> omega)))
          clear hb_w7
          try clear hB_w6
          go_wp2
          go_ret
          exact ⟨ret_bool (by simp), HB1.out.trans (hB_w7.mono hz1)⟩
    · have hM1 : (eM != 0) = true := by simpa using hM0
      obtain rfl : M = [] := hright.out.2 hM0

      go_enter Tryd.func3, Tryd.ntmps3
      go_upto_region 1 with fail
      go_cut [0, 1] (fun lv sv wx => sv = .string (S s) ∧ ReadsF wx lv T ∧ Below w.heap.size w wx)
      case first =>
        as_aux_lemma =>
          go_region_with (go_at_call 8; refine (C0.out _ (by (repeat (first | (with_reducible exact Below.refl _ _) | (with_reducible assumption) | (with_reducible refine Below.drew ?_) | (focus ((with_reducible refine Below.setCell ?_ ?_ _); rotate_left; (first | omega | (simp <;> omega)))) | (focus ((with_reducible refine Below.alloc ?_ ?_ _); rotate_left; (first | omega | (simp <;> omega)))) | exact Below.refl _ _ | assumption | refine Below.drew ?_ | refine Below.alloc ?_ (by first | omega | (simp <;> omega)) _ | refine Below.setCell ?_ (by first | omega | (simp <;> omega)) _)))).mono ?_; rintro e w1 ⟨v', rfl, hr, hb1⟩; have HB1 := Lib.hid (Below.trans (show Below w.heap.size w _ by (repeat (first | (with_reducible exact Below.refl _ _) | (with_reducible assumption) | (with_reducible refine Below.drew ?_) | (focus ((with_reducible refine Below.setCell ?_ ?_ _); rotate_left; (first | omega | (simp <;> omega)))) | (focus ((with_reducible refine Below.alloc ?_ ?_ _); rotate_left; (first | omega | (simp <;> omega)))) | exact Below.refl _ _ | assumption | refine Below.drew ?_ | refine Below.alloc ?_ (by first | omega | (simp <;> omega)) _ | refine Below.setCell ?_ (by first | omega | (simp <;> omega)) _))) (hb1.mono (by (first | omega | (simp <;> omega))))); have HR := Lib.hid hr; clear hb1)
          all_goals (go_wp2_with fail; go_meet; exact ⟨by simp [go_sem, *], HR.out, HB1.out⟩)
      case rest =>
        obtain ⟨rfl, hr, hb1⟩ := hcut
        obtain ⟨w1, hw1⟩ : ∃ x, x = wc := ⟨_, rfl⟩
        rw [← hw1] at hr hb1 ⊢
        clear hw1
        have HB1 := Lib.hid hb1
        have HR := Lib.hid hr
        obtain ⟨ao, cap, rfl, _⟩ := hr
        have hz1 := HB1.out.size
        clear hb1
        go_wp2_with fail
        refine Calls.mono (CPr.out _ _ HR.out) ?_
        rintro e w2 ⟨rfl, hb_w2⟩
        have hz_w2 := hb_w2.size
        try simp at hz_w2
        have HH_w2 := Lib.hid hb_w2
        have hB_w2 : Below w1.heap.size w1 w2 := Below.trans (by (repeat (first | (with_reducible exact Below.refl _ _) | (with_reducible assumption) | (with_reducible refine Below.drew ?_) | (focus ((with_reducible refine Below.setCell ?_ ?_ _); rotate_left; (first | omega | (simp <;> omega)))) | (focus ((with_reducible refine Below.alloc ?_ ?_ _); rotate_left; (first | omega | (simp <;> omega)))) | exact Below.refl _ _ | assumption | refine Below.drew ?_ | refine Below.alloc ?_ (by first | omega | (simp <;> omega)) _ | refine Below.setCell ?_ (by first | omega | (simp <;> omega)) _))) (hb_w2.mono (by first | omega | (simp <;> omega)))
        clear hb_w2
        try clear hB_w7

        go_wp2_with fail
        refine Calls.mono (CPa.out (by trivial) _) ?_
        rintro e w3 ⟨v3, rfl, hr3, hb_w3⟩
        have hz_w3 := hb_w3.size
        try simp at hz_w3
        have HH_w3 := Lib.hid hb_w3
        have hB_w3 : Below w1.heap.size w1 w3 := Below.trans (by (repeat (first | (with_reducible exact Below.refl _ _) | (with_reducible assumption) | (with_reducible refine Below.drew ?_) | (focus ((with_reducible refine Below.setCell ?_ ?_ _); rotate_left; (first | omega | (simp <;> omega)))) | (focus ((with_reducible refine Below.alloc ?_ ?_ _); rotate_left; (first | omega | (simp <;> omega)))) | exact Below.refl _ _ | assumption | refine Below.drew ?_ | refine Below.alloc ?_ (by first | omega | (simp <;> omega)) _ | refine Below.setCell ?_ (by first | omega | (simp <;> omega)) _))) (hb_w3.mono (by first | omega | (simp <;> omega)))
        clear hb_w3
        try clear hB_w2
        have HR3 := Lib.hid hr3
        clear hr3
        go_wp2_with fail
        refine Calls.mono (TT.out ▸ refLike _ _ T T _ (HR.out.below hB_w3) HR3.out) ?_
        rintro e w4 ⟨rfl, hb_w4⟩
        have hz_w4 := hb_w4.size
        try simp at hz_w4
        have HH_w4 := Lib.hid hb_w4
        have hB_w4 : Below w1.heap.size w1 w4 := Below.trans (by (repeat (first | (with_reducible exact Below.refl _ _) | (with_reducible assumption) | (with_reducible refine Below.drew ?_) | (focus ((with_reducible refine Below.setCell ?_ ?_ _); rotate_left; (first | omega | (simp <;> omega)))) | (focus ((with_reducible refine Below.alloc ?_ ?_ _); rotate_left; (first | omega | (simp <;> omega)))) | exact Below.refl _ _ | assumption | refine Below.drew ?_ | refine Below.alloc ?_ (by first | omega | (simp <;> omega)) _ | refine Below.setCell ?_ (by first | omega | (simp <;> omega)) _))) (hb_w4.mono (by first | omega | (simp <;> omega)))
        clear hb_w4
        try clear hB_w3

        go_wp2_with fail
        refine Calls.mono (CPs.out _) ?_
        rintro e w5 ⟨v5, rfl, hr5, hb_w5⟩
        have hz_w5 := hb_w5.size
        try simp at hz_w5
        have HH_w5 := Lib.hid hb_w5
        have hB_w5 : Below w1.heap.size w1 w5 := Below.trans (by (repeat (first | (with_reducible exact Below.refl _ _) | (with_reducible assumption) | (with_reducible refine Below.drew ?_) | (focus ((with_reducible refine Below.setCell ?_ ?_ _); rotate_left; (first | omega | (simp <;> omega)))) | (focus ((with_reducible refine Below.alloc ?_ ?_ _); rotate_left; (first | omega | (simp <;> omega)))) | exact Below.refl _ _ | assumption | refine Below.drew ?_ | refine Below.alloc ?_ (by first | omega | (simp <;> omega)) _ | refine Below.setCell ?_ (by first | omega | (simp <;> omega)) _))) (hb_w5.mono (by first | omega | (simp <;> omega)))
        clear hb_w5
        try clear hB_w4
        obtain ⟨ao5, cap5, rfl, _⟩ := hr5
        go_wp2_with fail
        refine Calls.mono (head_alive _) ?_
        rintro e w6 ⟨rfl, hb_w6⟩
        have hz_w6 := hb_w6.size
        try simp at hz_w6
        have HH_w6 := Lib.hid hb_w6
        have hB_w6 : Below w1.heap.size w1 w6 := Below.trans (by (repeat (first | (with_reducible exact Below.refl _ _) | (with_reducible assumption) | (with_reducible refine Below.drew ?_) | (focus ((with_reducible refine Below.setCell ?_ ?_ _); rotate_left; (first | omega | (simp <;> omega)))) | (focus ((with_reducible refine Below.alloc ?_ ?_ _); rotate_left; (first | omega | (simp <;> omega)))) | exact Below.refl _ _ | assumption | refine Below.drew ?_ | refine Below.alloc ?_ (by first | omega | (simp <;> omega)) _ | refine Below.setCell ?_ (by first | omega | (simp <;> omega)) _))) (hb_w6.mono (by first | omega | (simp <;> omega)))
        clear hb_w6
        try clear hB_w5
        go_wp2
        go_ret
        exact ⟨ret_bool (by simp), HB1.out.trans (hB_w6.mono hz1)⟩
  · have hf1 : (e1 == 0) = false := by simpa using h1
    by_cases hM0 : eM = 0
    · subst hM0
      have hrt := Lib.hid (hright.out.1 rfl)
      rcases hprr.out hrt.out with h2 | h2
      · subst h2
        rw [hback2.out rfl] at CPb

        go_enter Tryd.func3, Tryd.ntmps3
        go_upto_region 1 with fail
        go_cut [0, 1] (fun lv sv wx => sv = .string (S s) ∧ ReadsF wx lv T ∧ Below w.heap.size w wx)
        case first =>
          as_aux_lemma =>
            go_region_with (go_at_call 8; refine (C0.out _ (by (repeat (first | (with_reducible exact Below.refl _ _) | (with_reducible assumption) | (with_reducible refine Below.drew ?_) | (focus ((with_reducible refine Below.setCell ?_ ?_ _); rotate_left; (first | omega | (simp <;> omega)))) | (focus ((with_reducible refine Below.alloc ?_ ?_ _); rotate_left; (first | omega | (simp <;> omega)))) | exact Below.refl _ _ | assumption | refine Below.drew ?_ | refine Below.alloc ?_ (by first | omega | (simp <;> omega)) _ | refine Below.setCell ?_ (by first | omega | (simp <;> omega)) _)))).mono ?_; rintro e w1 ⟨v', rfl, hr, hb1⟩; have HB1 := Lib.hid (Below.trans (show Below w.heap.size w _ by (repeat (first | (with_reducible exact Below.refl _ _) | (with_reducible assumption) | (with_reducible refine Below.drew ?_) | (focus ((with_reducible refine Below.setCell ?_ ?_ _); rotate_left; (first | omega | (simp <;> omega)))) | (focus ((with_reducible refine Below.alloc ?_ ?_ _); rotate_left; (first | omega | (simp <;> omega)))) | exact Below.refl _ _ | assumption | refine Below.drew ?_ | refine Below.alloc ?_ (by first | omega | (simp <;> omega)) _ | refine Below.setCell ?_ (by first | omega | (simp <;> omega)) _))) (hb1.mono (by (first | omega | (simp <;> omega))))); have HR := Lib.hid hr; clear hb1)
            all_goals (go_wp2_with fail; go_meet; exact ⟨by simp [go_sem, *], HR.out, HB1.out⟩)
        case rest =>
          obtain ⟨rfl, hr, hb1⟩ := hcut
          obtain ⟨w1, hw1⟩ : ∃ x, x = wc := ⟨_, rfl⟩
          rw [← hw1] at hr hb1 ⊢
          clear hw1
          have HB1 := Lib.hid hb1
          have HR := Lib.hid hr
          obtain ⟨ao, cap, rfl, _⟩ := hr
          have hz1 := HB1.out.size
          clear hb1
          go_wp2_with fail
          refine Calls.mono (CPr.out _ _ HR.out) ?_
          rintro e w2 ⟨rfl, hb_w2⟩
          have hz_w2 := hb_w2.size
          try simp at hz_w2
          have HH_w2 := Lib.hid hb_w2
          have hB_w2 : Below w1.heap.size w1 w2 := Below.trans (by (repeat (first | (with_reducible exact Below.refl _ _) | (with_reducible assumption) | (with_reducible refine Below.drew ?_) | (focus ((with_reducible refine Below.setCell ?_ ?_ _); rotate_left; (first | omega | (simp <;> omega)))) | (focus ((with_reducible refine Below.alloc ?_ ?_ _); rotate_left; (first | omega | (simp <;> omega)))) | exact Below.refl _ _ | assumption | refine Below.drew ?_ | refine Below.alloc ?_ (by first | omega | (simp <;> omega)) _ | refine Below.setCell ?_ (by first | omega | (simp <;> omega)) _))) (hb_w2.mono (by first | omega | (simp <;> omega)))
          clear hb_w2
          try clear hB_w6

          go_wp2_with fail
          refine Calls.mono (CPs.out _) ?_
          rintro e w5 ⟨v5, rfl, hr5, hb_w5⟩
          have hz_w5 := hb_w5.size
          try simp at hz_w5
          have HH_w5 := Lib.hid hb_w5
          have hB_w5 : Below w1.heap.size w1 w5 := Below.trans (by (repeat (first | (with_reducible exact Below.refl _ _) | (with_reducible assumption) | (with_reducible refine Below.drew ?_) | (focus ((with_reducible refine Below.setCell ?_ ?_ _); rotate_left; (first | omega | (simp <;> omega)))) | (focus ((with_reducible refine Below.alloc ?_ ?_ _); rotate_left; (first | omega | (simp <;> omega)))) | exact Below.refl _ _ | assumption | refine Below.drew ?_ | refine Below.alloc ?_ (by first | omega | (simp <;> omega)) _ | refine Below.setCell ?_ (by first | omega | (simp <;> omega)) _))) (hb_w5.mono (by first | omega | (simp <;> omega)))
          clear hb_w5
          try clear hB_w2
          have HR5 := Lib.hid hr5
          clear hr5
          go_wp2_with fail
          refine Calls.mono (CPm.out _ _ HR5.out) ?_
          rintro e w6 ⟨rfl, hb_w6⟩
          have hz_w6 := hb_w6.size
          try simp at hz_w6
          have HH_w6 := Lib.hid hb_w6
          have hB_w6 : Below w1.heap.size w1 w6 := Below.trans (by (repeat (first | (with_reducible exact Below.refl _ _) | (with_reducible assumption) | (with_reducible refine Below.drew ?_) | (focus ((with_reducible refine Below.setCell ?_ ?_ _); rotate_left; (first | omega | (simp <;> omega)))) | (focus ((with_reducible refine Below.alloc ?_ ?_ _); rotate_left; (first | omega | (simp <;> omega)))) | exact Below.refl _ _ | assumption | refine Below.drew ?_ | refine Below.alloc ?_ (by first | omega | (simp <;> omega)) _ | refine Below.setCell ?_ (by first | omega | (simp <;> omega)) _))) (hb_w6.mono (by first | omega | (simp <;> omega)))
          clear hb_w6
          try clear hB_w5
          go_wp2_with fail
          refine Calls.mono (CPb.out (by trivial) _) ?_
          rintro e w7 ⟨v7, rfl, hr7, hb_w7⟩
          have hz_w7 := hb_w7.size
          try simp at hz_w7
          have HH_w7 := Lib.hid hb_w7
          have hB_w7 : Below w1.heap.size w1 w7 := Below.trans (by (repeat (first | (with_reducible exact Below.refl _ _) | (with_reducible assumption) | (with_reducible refine Below.drew ?_) | (focus ((with_reducible refine Below.setCell ?_ ?_ _); rotate_left; (first | omega | (simp <;> omega)))) | (focus ((with_reducible refine Below.alloc ?_ ?_ _); rotate_left; (first | omega | (simp <;> omega)))) | exact Below.refl _ _ | assumption | refine Below.drew ?_ | refine Below.alloc ?_ (by first | omega | (simp <;> omega)) _ | refine Below.setCell ?_ (by first | omega | (simp <;> omega)) _))) (hb_w7.mono (by first | omega | (simp <;> omega)))
          clear hb_w7
          try clear hB_w6
          have HR7 := Lib.hid hr7
          clear hr7
          go_wp2_with fail
          refine Calls.mono (head_alive _) ?_
          rintro e w8 ⟨rfl, hb_w8⟩
          have hz_w8 := hb_w8.size
          try simp at hz_w8
          have HH_w8 := Lib.hid hb_w8
          have hB_w8 : Below w1.heap.size w1 w8 := Below.trans (by (repeat (first | (with_reducible exact Below.refl _ _) | (with_reducible assumption) | (with_reducible refine Below.drew ?_) | (focus ((with_reducible refine Below.setCell ?_ ?_ _); rotate_left; (first | omega | (simp <;> omega)))) | (focus ((with_reducible refine Below.alloc ?_ ?_ _); rotate_left; (first | omega | (simp <;> omega)))) | exact Below.refl _ _ | assumption | refine Below.drew ?_ | refine Below.alloc ?_ (by first | omega | (simp <;> omega)) _ | refine Below.setCell ?_ (by first | omega | (simp <;> omega)) _))) (hb_w8.mono (by first | omega | (simp <;> omega)))
          clear hb_w8
          try clear hB_w7
          go_wp2_with fail
          refine Calls.mono (MM.out ▸ refLike _ _ M M _ (HR5.out.below (HH_w6.out.trans ((HH_w7.out.trans (HH_w8.out.mono (by omega))).mono (by omega)))) (HR7.out.below HH_w8.out)) ?_
          rintro e w9 ⟨rfl, hb_w9⟩
          have hz_w9 := hb_w9.size
          try simp at hz_w9
          have HH_w9 := Lib.hid hb_w9
          have hB_w9 : Below w1.heap.size w1 w9 := Below.trans (by (repeat (first | (with_reducible exact Below.refl _ _) | (with_reducible assumption) | (with_reducible refine Below.drew ?_) | (focus ((with_reducible refine Below.setCell ?_ ?_ _); rotate_left; (first | omega | (simp <;> omega)))) | (focus ((with_reducible refine Below.alloc ?_ ?_ _); rotate_left; (first | omega | (simp <;> omega)))) | exact Below.refl _ _ | assumption | refine Below.drew ?_ | refine Below.alloc ?_ (by first | omega | (simp <;> omega)) _ | refine Below.setCell ?_ (by first | omega | (simp <;> omega)) _))) (hb_w9.mono (by first | omega | (simp <;> omega)))
          clear hb_w9
          try clear hB_w8
          go_wp2
          go_ret
          exact ⟨ret_bool (by simp), HB1.out.trans (hB_w9.mono hz1)⟩
      · subst h2

        go_enter Tryd.func3, Tryd.ntmps3
        go_upto_region 1 with fail
        go_cut [0, 1] (fun lv sv wx => sv = .string (S s) ∧ ReadsF wx lv T ∧ Below w.heap.size w wx)
        case first =>
          as_aux_lemma =>
            go_region_with (go_at_call 8; refine (C0.out _ (by (repeat (first | (with_reducible exact Below.refl _ _) | (with_reducible assumption) | (with_reducible refine Below.drew ?_) | (focus ((with_reducible refine Below.setCell ?_ ?_ _); rotate_left; (first | omega | (simp <;> omega)))) | (focus ((with_reducible refine Below.alloc ?_ ?_ _); rotate_left; (first | omega | (simp <;> omega)))) | exact Below.refl _ _ | assumption | refine Below.drew ?_ | refine Below.alloc ?_ (by first | omega | (simp <;> omega)) _ | refine Below.setCell ?_ (by first | omega | (simp <;> omega)) _)))).mono ?_; rintro e w1 ⟨v', rfl, hr, hb1⟩; have HB1 := Lib.hid (Below.trans (show Below w.heap.size w _ by (repeat (first | (with_reducible exact Below.refl _ _) | (with_reducible assumption) | (with_reducible refine Below.drew ?_) | (focus ((with_reducible refine Below.setCell ?_ ?_ _); rotate_left; (first | omega | (simp <;> omega)))) | (focus ((with_reducible refine Below.alloc ?_ ?_ _); rotate_left; (first | omega | (simp <;> omega)))) | exact Below.refl _ _ | assumption | refine Below.drew ?_ | refine Below.alloc ?_ (by first | omega | (simp <;> omega)) _ | refine Below.setCell ?_ (by first | omega | (simp <;> omega)) _))) (hb1.mono (by (first | omega | (simp <;> omega))))); have HR := Lib.hid hr; clear hb1)
            all_goals (go_wp2_with fail; go_meet; exact ⟨by simp [go_sem, *], HR.out, HB1.out⟩)
        case rest =>
          obtain ⟨rfl, hr, hb1⟩ := hcut
          obtain ⟨w1, hw1⟩ : ∃ x, x = wc := ⟨_, rfl⟩
          rw [← hw1] at hr hb1 ⊢
          clear hw1
          have HB1 := Lib.hid hb1
          have HR := Lib.hid hr
          obtain ⟨ao, cap, rfl, _⟩ := hr
          have hz1 := HB1.out.size
          clear hb1
          go_wp2_with fail
          refine Calls.mono (CPr.out _ _ HR.out) ?_
          rintro e w2 ⟨rfl, hb_w2⟩
          have hz_w2 := hb_w2.size
          try simp at hz_w2
          have HH_w2 := Lib.hid hb_w2
          have hB_w2 : Below w1.heap.size w1 w2 := Below.trans (by (repeat (first | (with_reducible exact Below.refl _ _) | (with_reducible assumption) | (with_reducible refine Below.drew ?_) | (focus ((with_reducible refine Below.setCell ?_ ?_ _); rotate_left; (first | omega | (simp <;> omega)))) | (focus ((with_reducible refine Below.alloc ?_ ?_ _); rotate_left; (first | omega | (simp <;> omega)))) | exact Below.refl _ _ | assumption | refine Below.drew ?_ | refine Below.alloc ?_ (by first | omega | (simp <;> omega)) _ | refine Below.setCell ?_ (by first | omega | (simp <;> omega)) _))) (hb_w2.mono (by first | omega | (simp <;> omega)))
          clear hb_w2
          try clear hB_w9

          go_wp2_with fail
          refine Calls.mono (CPs.out _) ?_
          rintro e w5 ⟨v5, rfl, hr5, hb_w5⟩
          have hz_w5 := hb_w5.size
          try simp at hz_w5
          have HH_w5 := Lib.hid hb_w5
          have hB_w5 : Below w1.heap.size w1 w5 := Below.trans (by (repeat (first | (with_reducible exact Below.refl _ _) | (with_reducible assumption) | (with_reducible refine Below.drew ?_) | (focus ((with_reducible refine Below.setCell ?_ ?_ _); rotate_left; (first | omega | (simp <;> omega)))) | (focus ((with_reducible refine Below.alloc ?_ ?_ _); rotate_left; (first | omega | (simp <;> omega)))) | exact Below.refl _ _ | assumption | refine Below.drew ?_ | refine Below.alloc ?_ (by first | omega | (simp <;> omega)) _ | refine Below.setCell ?_ (by first | omega | (simp <;> omega)) _))) (hb_w5.mono (by first | omega | (simp <;> omega)))
          clear hb_w5
          try clear hB_w2
          have HR5 := Lib.hid hr5
          clear hr5
          go_wp2_with fail
          refine Calls.mono (CPm.out _ _ HR5.out) ?_
          rintro e w6 ⟨rfl, hb_w6⟩
          have hz_w6 := hb_w6.size
          try simp at hz_w6
          have HH_w6 := Lib.hid hb_w6
          have hB_w6 : Below w1.heap.size w1 w6 := Below.trans (by (repeat (first | (with_reducible exact Below.refl _ _) | (with_reducible assumption) | (with_reducible refine Below.drew ?_) | (focus ((with_reducible refine Below.setCell ?_ ?_ _); rotate_left; (first | omega | (simp <;> omega)))) | (focus ((with_reducible refine Below.alloc ?_ ?_ _); rotate_left; (first | omega | (simp <;> omega)))) | exact Below.refl _ _ | assumption | refine Below.drew ?_ | refine Below.alloc ?_ (by first | omega | (simp <;> omega)) _ | refine Below.setCell ?_ (by first | omega | (simp <;> omega)) _))) (hb_w6.mono (by first | omega | (simp <;> omega)))
          clear hb_w6
          try clear hB_w5
          go_wp2_with fail
          refine Calls.mono (head_alive _) ?_
          rintro e w7 ⟨rfl, hb_w7⟩
          have hz_w7 := hb_w7.size
          try simp at hz_w7
          have HH_w7 := Lib.hid hb_w7
          have hB_w7 : Below w1.heap.size w1 w7 := Below.trans (by (repeat (first | (with_reducible exact Below.refl _ _) | (with_reducible assumption) | (with_reducible refine Below.drew ?_) | (focus ((with_reducible refine Below.setCell ?_ ?_ _); rotate_left; (first | omega | (simp <;> omega)))) | (focus ((with_reducible refine Below.alloc ?_ ?_ _); rotate_left; (first | omega | (simp <;> omega)))) | exact Below.refl _ _ | assumption | refine Below.drew ?_ | refine Below.alloc ?_ (by first | omega | (simp <;> omega)) _ | refine Below.setCell ?_ (by first | omega | (simp <;> omega)) _))) (hb_w7.mono (by first | omega | (simp <;> omega)))
          clear hb_w7
          try clear hB_w6
          go_wp2
          go_ret
          exact ⟨ret_bool (by simp), HB1.out.trans (hB_w7.mono hz1)⟩
    · have hM1 : (eM != 0) = true := by simpa using hM0
      obtain rfl : M = [] := hright.out.2 hM0

      go_enter Tryd.func3, Tryd.ntmps3
      go_upto_region 1 with fail
      go_cut [0, 1] (fun lv sv wx => sv = .string (S s) ∧ ReadsF wx lv T ∧ Below w.heap.size w wx)
      case first =>
        as_aux_lemma =>
          go_region_with (go_at_call 8; refine (C0.out _ (by (repeat (first | (with_reducible exact Below.refl _ _) | (with_reducible assumption) | (with_reducible refine Below.drew ?_) | (focus ((with_reducible refine Below.setCell ?_ ?_ _); rotate_left; (first | omega | (simp <;> omega)))) | (focus ((with_reducible refine Below.alloc ?_ ?_ _); rotate_left; (first | omega | (simp <;> omega)))) | exact Below.refl _ _ | assumption | refine Below.drew ?_ | refine Below.alloc ?_ (by first | omega | (simp <;> omega)) _ | refine Below.setCell ?_ (by first | omega | (simp <;> omega)) _)))).mono ?_; rintro e w1 ⟨v', rfl, hr, hb1⟩; have HB1 := Lib.hid (Below.trans (show Below w.heap.size w _ by (repeat (first | (with_reducible exact Below.refl _ _) | (with_reducible assumption) | (with_reducible refine Below.drew ?_) | (focus ((with_reducible refine Below.setCell ?_ ?_ _); rotate_left; (first | omega | (simp <;> omega)))) | (focus ((with_reducible refine Below.alloc ?_ ?_ _); rotate_left; (first | omega | (simp <;> omega)))) | exact Below.refl _ _ | assumption | refine Below.drew ?_ | refine Below.alloc ?_ (by first | omega | (simp <;> omega)) _ | refine Below.setCell ?_ (by first | omega | (simp <;> omega)) _))) (hb1.mono (by (first | omega | (simp <;> omega))))); have HR := Lib.hid hr; clear hb1)
          all_goals (go_wp2_with fail; go_meet; exact ⟨by simp [go_sem, *], HR.out, HB1.out⟩)
      case rest =>
        obtain ⟨rfl, hr, hb1⟩ := hcut
        obtain ⟨w1, hw1⟩ : ∃ x, x = wc := ⟨_, rfl⟩
        rw [← hw1] at hr hb1 ⊢
        clear hw1
        have HB1 := Lib.hid hb1
        have HR := Lib.hid hr
        obtain ⟨ao, cap, rfl, _⟩ := hr
        have hz1 := HB1.out.size
        clear hb1
        go_wp2_with fail
        refine Calls.mono (CPr.out _ _ HR.out) ?_
        rintro e w2 ⟨rfl, hb_w2⟩
        have hz_w2 := hb_w2.size
        try simp at hz_w2
        have HH_w2 := Lib.hid hb_w2
        have hB_w2 : Below w1.heap.size w1 w2 := Below.trans (by (repeat (first | (with_reducible exact Below.refl _ _) | (with_reducible assumption) | (with_reducible refine Below.drew ?_) | (focus ((with_reducible refine Below.setCell ?_ ?_ _); rotate_left; (first | omega | (simp <;> omega)))) | (focus ((with_reducible refine Below.alloc ?_ ?_ _); rotate_left; (first | omega | (simp <;> omega)))) | exact Below.refl _ _ | assumption | refine Below.drew ?_ | refine Below.alloc ?_ (by first | omega | (simp <;> omega)) _ | refine Below.setCell ?_ (by first | omega | (simp <;> omega)) _))) (hb_w2.mono (by first | omega | (simp <;> omega)))
        clear hb_w2
        try clear hB_w7

        go_wp2_with fail
        refine Calls.mono (CPs.out _) ?_
        rintro e w5 ⟨v5, rfl, hr5, hb_w5⟩
        have hz_w5 := hb_w5.size
        try simp at hz_w5
        have HH_w5 := Lib.hid hb_w5
        have hB_w5 : Below w1.heap.size w1 w5 := Below.trans (by (repeat (first | (with_reducible exact Below.refl _ _) | (with_reducible assumption) | (with_reducible refine Below.drew ?_) | (focus ((with_reducible refine Below.setCell ?_ ?_ _); rotate_left; (first | omega | (simp <;> omega)))) | (focus ((with_reducible refine Below.alloc ?_ ?_ _); rotate_left; (first | omega | (simp <;> omega)))) | exact Below.refl _ _ | assumption | refine Below.drew ?_ | refine Below.alloc ?_ (by first | omega | (simp <;> omega)) _ | refine Below.setCell ?_ (by first | omega | (simp <;> omega)) _))) (hb_w5.mono (by first | omega | (simp <;> omega)))
        clear hb_w5
        try clear hB_w2
        obtain ⟨ao5, cap5, rfl, _⟩ := hr5
        go_wp2_with fail
        refine Calls.mono (head_alive _) ?_
        rintro e w6 ⟨rfl, hb_w6⟩
        have hz_w6 := hb_w6.size
        try simp at hz_w6
        have HH_w6 := Lib.hid hb_w6
        have hB_w6 : Below w1.heap.size w1 w6 := Below.trans (by (repeat (first | (with_reducible exact Below.refl _ _) | (with_reducible assumption) | (with_reducible refine Below.drew ?_) | (focus ((with_reducible refine Below.setCell ?_ ?_ _); rotate_left; (first | omega | (simp <;> omega)))) | (focus ((with_reducible refine Below.alloc ?_ ?_ _); rotate_left; (first | omega | (simp <;> omega)))) | exact Below.refl _ _ | assumption | refine Below.drew ?_ | refine Below.alloc ?_ (by first | omega | (simp <;> omega)) _ | refine Below.setCell ?_ (by first | omega | (simp <;> omega)) _))) (hb_w6.mono (by first | omega | (simp <;> omega)))
        clear hb_w6
        try clear hB_w5
        go_wp2
        go_ret
        exact ⟨ret_bool (by simp), HB1.out.trans (hB_w6.mono hz1)⟩
end Go.Proofs.YtpklbelhdfkjpaaDoor
