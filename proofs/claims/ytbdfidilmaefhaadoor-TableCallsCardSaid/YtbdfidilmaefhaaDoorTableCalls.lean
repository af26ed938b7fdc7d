/- The law TableCalls: its walk (printed by tools/tablecalls.py). -/
import Derived.Test.YtbdfidilmaefhaaDoorTableRef4
import Derived.Test.YtbdfidilmaefhaaDoorTableSets
namespace Go.Proofs.YtbdfidilmaefhaaDoor
open Go.RowKit Go.Sort Go.Shelf
set_option linter.unusedVariables false

set_option maxHeartbeats 12800000 in
set_option maxRecDepth 100000 in
theorem tableCalls_any (v : Value) (L : List (List Value)) (a b : ByteArray) (w : World) (hv : RowsIn w 2 v L ∧ ∀ c ∈ L, AllSh [.str, .str] c) (h1 : a.size ≤ maxLen) (h2 : b.size ≤ maxLen) (_hL : True) :
    Calls Tryd.prog 5 #[v, .string a, .string b] w fun e w' => e = .returned (.bool true) ∧ Below w.heap.size w w' := by
  obtain ⟨xs, hr0, hxl⟩ := reads_inF hv
  have C0 := Lib.hid (few v xs w hr0 hxl)
  clear hr0 hxl hv
  obtain ⟨T, hT⟩ : ∃ T, fewL xs = T := ⟨_, rfl⟩
  have hTs : ∀ f ∈ T, Small f := by rw [← hT]; exact fewL_small xs
  have hTv : ∀ f ∈ T, f.2.length ≤ 10000 := by rw [← hT]; exact fewL_vals xs
  have hTl : T.length ≤ 45 := by rw [← hT]; exact fewL_len xs
  rw [hT] at C0
  obtain ⟨la, rfl⟩ := S_of a
  obtain ⟨lb, rfl⟩ := S_of b
  rw [S_size] at h1 h2
  have hm : maxLen = 9223372036854775807 := rfl
  rw [hm] at h1 h2
  obtain ⟨p, hp, hp1, hp2, _⟩ := min_take la 60
  obtain ⟨q, hq, hq1, hq2, _⟩ := min_take lb 1010
  have hp' : min (la.length : Int) 60 = p := by omega
  have hq' : min (lb.length : Int) 1010 = q := by omega
  clear hT hm hp hq
  have HTS := Lib.hid hTs
  have HTV := Lib.hid hTv
  clear hTs hTv
  go_enter Tryd.func5, Tryd.ntmps5
  go_wp2_with fail
  refine C0.out.mono ?_
  rintro e w1 ⟨v', rfl, hr, hb0⟩
  have HB0 := Lib.hid hb0
  clear hb0 C0
  go_wp2_with fail
  go_region
  obtain ⟨n, hn, hnl⟩ : ∃ n, la.take p = n ∧ n.length ≤ 60 := ⟨_, rfl, by simp; omega⟩
  obtain ⟨x, hx, hxl⟩ : ∃ x, lb.take q = x ∧ x.length ≤ 1010 := ⟨_, rfl, by simp; omega⟩
  rw [hn, hx]
  clear hn hx hp' hq'
  have hsn : n.length ≤ 4611686018427387903 := by omega
  have hsf : Small (n, x) := ⟨hsn, by show x.length ≤ _; omega⟩
  go_wp2_with fail
  have hB3 : Below w1.heap.size w1 (w1.drew.alloc (.cells #[.string (S n), .string (S x)] 25)) := by (repeat (first | exact Below.refl _ _ | assumption | refine Below.drew ?_ | refine Below.alloc ?_ (by first | omega | (simp <;> omega)) _ | refine Below.setCell ?_ (by first | omega | (simp <;> omega)) _))
  have hfb : w1.heap.size < (w1.drew.alloc (.cells #[.string (S n), .string (S x)] 25)).heap.size := by simp
  have c0 : (w1.drew.alloc (.cells #[.string (S n), .string (S x)] 25)).cell? ⟨w1.heap.size, 0, none⟩ = some (.string (S n)) := by rw [World.cell?_alloc_at (w := w1.drew) _ _ w1.heap.size 0 rfl]; rfl
  have c1 : (w1.drew.alloc (.cells #[.string (S n), .string (S x)] 25)).cell? ⟨w1.heap.size, 1, none⟩ = some (.string (S x)) := by rw [World.cell?_alloc_at (w := w1.drew) _ _ w1.heap.size 1 rfl]; rfl
  have hR := hr.below hB3
  obtain ⟨ao, cap, rfl, i1, i2, _, _⟩ := hr
  obtain ⟨w3, hw3⟩ : ∃ w3, w1.drew.alloc (.cells #[.string (S n), .string (S x)] 25) = w3 := ⟨_, rfl⟩
  first | rw [hw3] at hB3 hfb c0 c1 hR ⊢ | (rw [hw3] at hB3 hfb c0 c1 hR; rw [show (w1.alloc (.cells #[.string (S n), .string (S x)] 25)).drew = w3 from hw3])
  clear hw3
  have hzz := hB3.size
  refine Calls.mono (tableAdd _ T n x w3 hR HTS.out hsf) ?_
  rintro e w4 ⟨v8, ho8, rfl, hb4⟩
  have hB4 := hB3.trans (hb4.mono hB3.size)
  replace hR := hR.below hb4
  replace c0 := (hb4.cell (p := ⟨w1.heap.size, 0, none⟩) hfb).trans c0
  replace c1 := (hb4.cell (p := ⟨w1.heap.size, 1, none⟩) hfb).trans c1
  replace hfb := Nat.lt_of_lt_of_le hfb hb4.size
  have R8 := Lib.hid (ho8.reads)
  clear ho8
  go_wp2_with fail
  refine Calls.mono (refAdd _ T n x w4 hR HTS.out hsf (by omega)) ?_
  rintro e w5 ⟨v10, ho10, rfl, hb5⟩
  have hB5 := hB4.trans (hb5.mono hB4.size)
  replace hR := hR.below hb5
  replace c0 := (hb5.cell (p := ⟨w1.heap.size, 0, none⟩) hfb).trans c0
  replace c1 := (hb5.cell (p := ⟨w1.heap.size, 1, none⟩) hfb).trans c1
  replace hfb := Nat.lt_of_lt_of_le hfb hb5.size
  have R8 := Lib.hid (R8.out.below hb5)
  have R10 := Lib.hid (ho10.reads)
  clear ho10
  go_wp2_with fail
  refine Calls.mono (tableSet _ T n x w5 hR HTS.out hsf (by omega)) ?_
  rintro e w6 ⟨v12, rfl, hr12, hb6⟩
  have hB6 := hB5.trans (hb6.mono hB5.size)
  replace hR := hR.below hb6
  replace c0 := (hb6.cell (p := ⟨w1.heap.size, 0, none⟩) hfb).trans c0
  replace c1 := (hb6.cell (p := ⟨w1.heap.size, 1, none⟩) hfb).trans c1
  replace hfb := Nat.lt_of_lt_of_le hfb hb6.size
  have R8 := Lib.hid (R8.out.below hb6)
  have R10 := Lib.hid (R10.out.below hb6)
  have R12 := Lib.hid (hr12)
  clear hr12
  go_wp2_with fail
  refine Calls.mono (refSet _ T n x w6 hR HTS.out hsf (by omega)) ?_
  rintro e w7 ⟨v14, rfl, hr14, hb7⟩
  have hB7 := hB6.trans (hb7.mono hB6.size)
  replace hR := hR.below hb7
  replace c0 := (hb7.cell (p := ⟨w1.heap.size, 0, none⟩) hfb).trans c0
  replace c1 := (hb7.cell (p := ⟨w1.heap.size, 1, none⟩) hfb).trans c1
  replace hfb := Nat.lt_of_lt_of_le hfb hb7.size
  have R8 := Lib.hid (R8.out.below hb7)
  have R10 := Lib.hid (R10.out.below hb7)
  have R12 := Lib.hid (R12.out.below hb7)
  have R14 := Lib.hid (hr14)
  clear hr14
  obtain ⟨ae, hae⟩ : ∃ ae, addE T (n, x) = ae := ⟨_, rfl⟩
  obtain ⟨se, hse⟩ : ∃ se, setE T (n, x) = se := ⟨_, rfl⟩
  rw [hae, hse]
  clear hae hse
  have hys : ∀ y ∈ (namedL T n).map (·.2), y.length ≤ 10000 := fun y hy => by
    obtain ⟨f, hf, rfl⟩ := List.mem_map.1 hy
    exact HTV.out f (List.mem_filter.1 hf).1
  have hyl : ((namedL T n).map (·.2)).length ≤ 45 := by rw [List.length_map]; exact Nat.le_trans (List.length_filter_le _ _) hTl
  have hgv : (getV T n).2 = decide (0 < (namedL T n).length) ∧ ((getV T n).2 = true → ((namedL T n).map (·.2))[0]? = some (getV T n).1) ∧ ((getV T n).2 = false → (getV T n).1 = []) := by
    rw [getV_named]
    cases namedL T n <;> simp
  have hjl : joinedL T n = Lib.join ((namedL T n).map (·.2)) [44, 32] := rfl
  have hlm : (namedL T n).length = ((namedL T n).map (·.2)).length := by simp
  rw [hlm] at hgv
  obtain ⟨ys, hyse⟩ : ∃ ys, (namedL T n).map (·.2) = ys := ⟨_, rfl⟩
  rw [hyse] at hys hyl hgv hjl hlm
  obtain ⟨⟨gx, gb⟩, hge⟩ : ∃ z, getV T n = z := ⟨_, rfl⟩
  rw [hge] at hgv
  simp only at hgv
  obtain ⟨hg1, hg2, hg3⟩ := hgv
  have CJ := Lib.hid (fun v W (hr : Reads W v ys) => refJoined v ys W hr hys (by omega))
  have HYS := Lib.hid hyse
  have HGE := Lib.hid hge
  have HJL := Lib.hid hjl
  have HLM := Lib.hid hlm
  clear hyse hge hjl hlm hys
  go_wp2_with fail
  refine Calls.mono ((refAll _ T n hsn w7 hR HTS.out (by omega)).mono (fun e w' h => by rw [HYS.out] at h; exact h)) ?_
  rintro e w8 ⟨v16, rfl, ho16, hb8⟩
  have hB8 := hB7.trans (hb8.mono hB7.size)
  replace hR := hR.below hb8
  replace c0 := (hb8.cell (p := ⟨w1.heap.size, 0, none⟩) hfb).trans c0
  replace c1 := (hb8.cell (p := ⟨w1.heap.size, 1, none⟩) hfb).trans c1
  replace hfb := Nat.lt_of_lt_of_le hfb hb8.size
  have R8 := Lib.hid (R8.out.below hb8)
  have R10 := Lib.hid (R10.out.below hb8)
  have R12 := Lib.hid (R12.out.below hb8)
  have R14 := Lib.hid (R14.out.below hb8)
  have O16 := Lib.hid ((show Owns w8 w7.heap.size v16 ys from ho16))
  clear ho16
  go_wp2_with fail
  refine Calls.mono ((tableGet _ T n hsn w8 hR HTS.out).mono (fun e w' h => by rw [HGE.out] at h; exact h)) ?_
  rintro e w9 ⟨rfl, hb9⟩
  have hB9 := hB8.trans (hb9.mono hB8.size)
  replace hR := hR.below hb9
  replace c0 := (hb9.cell (p := ⟨w1.heap.size, 0, none⟩) hfb).trans c0
  replace c1 := (hb9.cell (p := ⟨w1.heap.size, 1, none⟩) hfb).trans c1
  replace hfb := Nat.lt_of_lt_of_le hfb hb9.size
  have R8 := Lib.hid (R8.out.below hb9)
  have R10 := Lib.hid (R10.out.below hb9)
  have R12 := Lib.hid (R12.out.below hb9)
  have R14 := Lib.hid (R14.out.below hb9)
  have O16 := Lib.hid (O16.out.below hb9)
  go_wp2_with fail
  refine Calls.mono ((tableJoined _ T n hsn w9 hR HTS.out HTV.out (by omega)).mono (fun e w' h => by rw [HJL.out, HLM.out, ← hg1] at h; exact h)) ?_
  rintro e w10 ⟨rfl, hb10⟩
  have hB10 := hB9.trans (hb10.mono hB9.size)
  replace hR := hR.below hb10
  replace c0 := (hb10.cell (p := ⟨w1.heap.size, 0, none⟩) hfb).trans c0
  replace c1 := (hb10.cell (p := ⟨w1.heap.size, 1, none⟩) hfb).trans c1
  replace hfb := Nat.lt_of_lt_of_le hfb hb10.size
  have R8 := Lib.hid (R8.out.below hb10)
  have R10 := Lib.hid (R10.out.below hb10)
  have R12 := Lib.hid (R12.out.below hb10)
  have R14 := Lib.hid (R14.out.below hb10)
  have O16 := Lib.hid (O16.out.below hb10)
  go_wp2_with fail
  refine Calls.mono ((tableAll _ T n hsn w10 hR HTS.out (by omega)).mono (fun e w' h => by rw [HYS.out] at h; exact h)) ?_
  rintro e w11 ⟨v21, rfl, ho21, hb11⟩
  have hB11 := hB10.trans (hb11.mono hB10.size)
  replace hR := hR.below hb11
  replace c0 := (hb11.cell (p := ⟨w1.heap.size, 0, none⟩) hfb).trans c0
  replace c1 := (hb11.cell (p := ⟨w1.heap.size, 1, none⟩) hfb).trans c1
  replace hfb := Nat.lt_of_lt_of_le hfb hb11.size
  have R8 := Lib.hid (R8.out.below hb11)
  have R10 := Lib.hid (R10.out.below hb11)
  have R12 := Lib.hid (R12.out.below hb11)
  have R14 := Lib.hid (R14.out.below hb11)
  have O16 := Lib.hid (O16.out.below hb11)
  have O21 := Lib.hid ((show Owns w11 w10.heap.size v21 ys from ho21))
  clear ho21
  have HF0 := Lib.hid (HB0.out.trans (hB11.mono HB0.out.size))
  have hzf := HF0.out.size
  clear hb4 hb5 hb6 hb7 hb8 hb9 hb10 hb11 hB3 hB4 hB5 hB6 hB7 hB8 hB9 hB10 hB11 c0 c1 hfb hzz i1 i2
  obtain ⟨js, hjs⟩ : ∃ js, Lib.join ys [44, 32] = js := ⟨_, rfl⟩
  rw [hjs] at CJ ⊢
  clear hjs HYS HGE HJL HLM HB0
  have HR := Lib.hid hR
  clear hR
  cases gb with
  | false =>
    obtain rfl := hg3 rfl
    have hy0 : ys.length = 0 := by
      have : decide (0 < ys.length) = false := hg1.symm
      simpa using this
    obtain rfl : ys = [] := List.length_eq_zero_iff.1 hy0
    obtain ⟨a16, c16, rfl, _, _, _⟩ := O16.out.shape
    obtain ⟨a21, c21, rfl, _, _, _⟩ := O21.out.shape
    have CJ2 := Lib.hid (fun W (hb : Below w11.heap.size w11 W) => CJ.out _ W (Reads.below O16.out.reads hb))
    have h0 := Below.refl w11.heap.size w11
    clear CJ hg1 hg2 hg3 hy0
    go_wp2_with (go_at_call 21; refine Calls.mono (CJ2.out _ h0) ?_; rintro e w' ⟨rfl, hww⟩; replace hww := hww.symm; subst hww)
    refine wp_loop_rounds 1 ?_
    rw [rounds_succ]
    have hBw := h0
    go_wp2_with fail
    refine (alive _).mono ?_
    rintro e u1 ⟨rfl, b1⟩
    have B1 := hBw.trans (b1.mono hBw.size)
    have E1 := HR.out.below B1
    go_wp2_with fail
    refine (tableRight _ T u1 E1 HTS.out).mono ?_
    rintro e u2 ⟨rfl, b2⟩
    have B2 := B1.trans (b2.mono B1.size)
    go_wp2_with fail
    refine (refRight _ T u2 (HR.out.below B2) HTS.out).mono ?_
    rintro e u3 ⟨rfl, b3⟩
    have B3 := B2.trans (b3.mono B2.size)
    have K1 := refLike v8 v10 _ _ u3 (R8.out.below B3) (R10.out.below B3)
    have hNN : (addL T (n, x) == addL T (n, x)) = true := by simp
    rw [hNN] at K1
    obtain ⟨rb, hrb⟩ : ∃ rb, rightL T = rb := ⟨_, rfl⟩
    rw [hrb]
    clear hrb hNN E1
    go_wp2_with fail
    refine K1.mono ?_
    rintro e u4 ⟨rfl, b4⟩
    have B4 := B3.trans (b4.mono B3.size)
    have K2 := refLike v12 v14 _ _ u4 (R12.out.below B4) (R14.out.below B4)
    have hNN : (setL T (n, x) == setL T (n, x)) = true := by simp
    rw [hNN] at K2
    clear K1 hNN
    go_wp2_with fail
    refine K2.mono ?_
    rintro e u5 ⟨rfl, b5⟩
    have B5 := B4.trans (b5.mono B4.size)
    clear K2
    go_wp2_with fail
    refine (tableRemove _ T n hsn u5 (HR.out.below B5) HTS.out (by omega)).mono ?_
    rintro e u6 ⟨rv1, rfl, q1, b6⟩
    have B6 := B5.trans (b6.mono B5.size)
    have Q1 := q1.reads
    clear q1
    go_wp2_with fail
    refine (refRemove _ T n hsn u6 (HR.out.below B6) HTS.out (by omega)).mono ?_
    rintro e u7 ⟨rv2, rfl, q2, b7⟩
    have B7 := B6.trans (b7.mono B6.size)
    have K3 := refLike rv1 rv2 _ _ u7 (Q1.below b7) q2.reads
    have hNN : (removeL T n == removeL T n) = true := by simp
    rw [hNN] at K3
    clear Q1 q2 hNN
    go_wp2_with fail
    refine K3.mono ?_
    rintro e u8 ⟨rfl, b8⟩
    have B8 := HF0.out.trans ((B7.trans (b8.mono B7.size)).mono hzf)
    go_wp2
    go_ret
    exact ⟨rfl, B8⟩
  | true =>
    have hy0 : 0 < ys.length := by
      have : decide (0 < ys.length) = true := hg1.symm
      simpa using this
    have hgx := hg2 rfl
    rw [List.getElem?_eq_getElem hy0] at hgx
    obtain rfl : ys[0] = gx := by simpa using hgx
    obtain ⟨g16, c16, rfl, j1, j2, j3, j4⟩ := O16.out.at 0 hy0
    obtain ⟨g21, c21, rfl, l1, l2, l3, l4⟩ := O21.out.at 0 hy0
    have hmx : maxLen = 9223372036854775807 := rfl
    rw [hmx] at j2 l2
    have CJ2 := Lib.hid (fun W (hb : Below w11.heap.size w11 W) => CJ.out _ W (Reads.below O16.out.reads hb))
    have h0 := Below.refl w11.heap.size w11
    have d0 := j4 0 hy0
    have J4 := Lib.hid j4
    have L4 := Lib.hid l4
    obtain ⟨gx, hgxe⟩ : ∃ gx, ys[0] = gx := ⟨_, rfl⟩
    rw [hgxe] at d0 ⊢
    clear CJ hg1 hg2 hg3 hgx j4 l4 hmx hgxe
    go_wp2_with (go_at_call 21; refine Calls.mono (CJ2.out _ h0) ?_; rintro e w' ⟨rfl, hww⟩; replace hww := hww.symm; subst hww)
    go_loopw [125] (fun iv wr => ∃ i : Nat, iv = .int .i64 i ∧ i ≤ ys.length ∧ Below w11.heap.size w11 wr) (fun iv _ => ys.length - (intOf iv).toNat)
    case atStart => exact ⟨0, rfl, Nat.zero_le _, h0⟩
    case round =>
      obtain ⟨i, rfl, hi, hBw⟩ := hrel
      by_cases hlt : i < ys.length
      · have s1 := (hBw.cell (p := ⟨g16, i, none⟩) j3).trans (J4.out i hlt)
        have s2 := (hBw.cell (p := ⟨g21, i, none⟩) l3).trans (L4.out i hlt)
        obtain ⟨z, hze⟩ : ∃ z, ys[i] = z := ⟨_, rfl⟩
        rw [hze] at s1 s2
        clear hze d0
        go_wp2_with fail
        go_region
        all_goals
          go_wp2
          go_roundw
          case rel => exact ⟨i + 1, by go_num, by omega, by (repeat (first | exact Below.refl _ _ | assumption | refine Below.drew ?_ | refine Below.alloc ?_ (by first | omega | (simp <;> omega)) _ | refine Below.setCell ?_ (by first | omega | (simp <;> omega)) _))⟩
          case measure => simp [intOf]; omega
      · clear d0
        go_wp2_with fail
        refine (alive _).mono ?_
        rintro e u1 ⟨rfl, b1⟩
        have B1 := hBw.trans (b1.mono hBw.size)
        have E1 := HR.out.below B1
        go_wp2_with fail
        refine (tableRight _ T u1 E1 HTS.out).mono ?_
        rintro e u2 ⟨rfl, b2⟩
        have B2 := B1.trans (b2.mono B1.size)
        go_wp2_with fail
        refine (refRight _ T u2 (HR.out.below B2) HTS.out).mono ?_
        rintro e u3 ⟨rfl, b3⟩
        have B3 := B2.trans (b3.mono B2.size)
        have K1 := refLike v8 v10 _ _ u3 (R8.out.below B3) (R10.out.below B3)
        have hNN : (addL T (n, x) == addL T (n, x)) = true := by simp
        rw [hNN] at K1
        obtain ⟨rb, hrb⟩ : ∃ rb, rightL T = rb := ⟨_, rfl⟩
        rw [hrb]
        clear hrb hNN E1
        go_wp2_with fail
        refine K1.mono ?_
        rintro e u4 ⟨rfl, b4⟩
        have B4 := B3.trans (b4.mono B3.size)
        have K2 := refLike v12 v14 _ _ u4 (R12.out.below B4) (R14.out.below B4)
        have hNN : (setL T (n, x) == setL T (n, x)) = true := by simp
        rw [hNN] at K2
        clear K1 hNN
        go_wp2_with fail
        refine K2.mono ?_
        rintro e u5 ⟨rfl, b5⟩
        have B5 := B4.trans (b5.mono B4.size)
        clear K2
        go_wp2_with fail
        refine (tableRemove _ T n hsn u5 (HR.out.below B5) HTS.out (by omega)).mono ?_
        rintro e u6 ⟨rv1, rfl, q1, b6⟩
        have B6 := B5.trans (b6.mono B5.size)
        have Q1 := q1.reads
        clear q1
        go_wp2_with fail
        refine (refRemove _ T n hsn u6 (HR.out.below B6) HTS.out (by omega)).mono ?_
        rintro e u7 ⟨rv2, rfl, q2, b7⟩
        have B7 := B6.trans (b7.mono B6.size)
        have K3 := refLike rv1 rv2 _ _ u7 (Q1.below b7) q2.reads
        have hNN : (removeL T n == removeL T n) = true := by simp
        rw [hNN] at K3
        clear Q1 q2 hNN
        go_wp2_with fail
        refine K3.mono ?_
        rintro e u8 ⟨rfl, b8⟩
        have B8 := HF0.out.trans ((B7.trans (b8.mono B7.size)).mono hzf)
        go_wp2
        go_ret
        exact ⟨rfl, B8⟩
end Go.Proofs.YtbdfidilmaefhaaDoor
