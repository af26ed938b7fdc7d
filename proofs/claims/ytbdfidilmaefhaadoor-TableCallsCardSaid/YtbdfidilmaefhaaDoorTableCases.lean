/- The law TableCases: its walk. -/
import Derived.Test.YtbdfidilmaefhaaDoorCaseMath
import Derived.Test.YtbdfidilmaefhaaDoorTableAll
import Derived.Test.YtbdfidilmaefhaaDoorTableFew
namespace Go.Proofs.YtbdfidilmaefhaaDoor
open Go.RowKit Go.Sort Go.Shelf
set_option linter.unusedVariables false

theorem min_take (l : List UInt8) (k : Nat) : ∃ p : Nat, min (l.length : Int) k = p ∧ p ≤ l.length ∧ p ≤ k ∧ l.take k = l.take p :=
  ⟨min l.length k, by omega, by omega, by omega, by
    by_cases h : l.length ≤ k
    · rw [Nat.min_eq_left h, List.take_length, List.take_of_length_le h]
    · rw [Nat.min_eq_right (by omega)]⟩

set_option maxHeartbeats 3200000 in
set_option maxRecDepth 100000 in
theorem tableCases_any (v : Value) (L : List (List Value)) (a b : ByteArray) (w : World) (hv : RowsIn w 2 v L ∧ ∀ c ∈ L, AllSh [.str, .str] c) (h1 : a.size ≤ maxLen) (h2 : b.size ≤ maxLen) (_hL : True) :
    Calls Tryd.prog 4 #[v, .string a, .string b] w fun e w' => e = .returned (.bool true) ∧ Below w.heap.size w w' := by
  obtain ⟨xs, hr0, hxl⟩ := reads_inF hv
  have C0 := Lib.hid (few v xs w hr0 hxl)
  clear hr0 hxl hv
  obtain ⟨T, hT⟩ : ∃ T, fewL xs = T := ⟨_, rfl⟩
  have hTs : ∀ f ∈ T, Small f := by rw [← hT]; exact fewL_small xs
  have hTl : T.length ≤ 45 := by rw [← hT]; exact fewL_len xs
  rw [hT] at C0
  obtain ⟨la, rfl⟩ := S_of a
  obtain ⟨lb, rfl⟩ := S_of b
  rw [S_size] at h1 h2
  have hm : maxLen = 9223372036854775807 := rfl
  rw [hm] at h1 h2
  obtain ⟨p, hp, hp1, hp2, hp3⟩ := min_take la 60
  obtain ⟨q, hq, hq1, hq2, hq3⟩ := min_take lb 60
  have hp' : min (la.length : Int) 60 = p := by omega
  have hq' : min (lb.length : Int) 60 = q := by omega
  clear hT hm hp3 hq3 hp hq
  have HTS := Lib.hid hTs
  clear hTs
  go_enter Tryd.func4, Tryd.ntmps4
  go_wp2_with fail
  refine C0.out.mono ?_
  rintro e w1 ⟨v', rfl, hr, hb0⟩
  have HR := Lib.hid hr
  have HB0 := Lib.hid hb0
  obtain ⟨ao0, cap0, rfl, i1, i2, _, _⟩ := hr
  clear hb0 C0
  go_wp2_with fail
  go_region
  go_wp2
  obtain ⟨x, hx, hxl⟩ : ∃ x, la.take p = x ∧ x.length = p := ⟨_, rfl, by simp; omega⟩
  obtain ⟨y, hy, hyl⟩ : ∃ y, lb.take q = y ∧ y.length = q := ⟨_, rfl, by simp; omega⟩
  rw [hx, hy]
  clear hx hy hp' hq'
  subst hxl
  subst hyl
  have hb1 : Below w1.heap.size w1 w1.drew := (Below.refl _ _).drew
  obtain ⟨w2, hw2⟩ : ∃ w2, w1.drew = w2 := ⟨_, rfl⟩
  rw [hw2] at hb1 ⊢
  clear hw2
  have hz1 := hb1.size
  simp only [mk_S]
  go_loopw [7, 30] (fun gv iv wr => ∃ k : Nat, k ≤ x.length ∧ gv = .string (S ((x.take k).map greatB)) ∧ iv = .int .i64 k ∧ Below w1.heap.size w1 wr) (fun _ iv _ => x.length - (intOf iv).toNat)
  case atStart => exact ⟨0, Nat.zero_le _, rfl, rfl, hb1⟩
  case round =>
    obtain ⟨k, hk, rfl, rfl, hB⟩ := hrel
    have hzr := hB.size
    by_cases hlt : k < x.length
    · have hbk : bAt x k = (x[k].toNat : Int) := bAt_eq hlt
      obtain ⟨c, hc⟩ : ∃ c, x[k] = c := ⟨_, rfl⟩
      rw [hc] at hbk
      have hlen : ((x.take k).map greatB).length + 1 ≤ 9223372036854775807 := by simp; omega
      have htk : (x.take (k + 1)).map greatB = (x.take k).map greatB ++ [greatB c] := by
        rw [List.take_succ_eq_append_getElem hlt, List.map_append, hc]; rfl
      obtain ⟨g, hg⟩ : ∃ g, (x.take k).map greatB = g := ⟨_, rfl⟩
      rw [hg] at hlen htk ⊢
      have HTK := Lib.hid htk
      clear htk hg hc
      have hu := greatB_toNat c
      have hc256 := c.toNat_lt
      have hcc := fun W bb => conv_one W bb (greatB c)
      by_cases hlow : 97 ≤ c.toNat ∧ c.toNat ≤ 122
      · obtain ⟨h1, h2⟩ := hlow
        have hui : ((c.toNat : Int) - 32) = ((greatB c).toNat : Int) := by rw [hu]; unfold greatN; rw [if_pos ⟨h1, h2⟩]; omega
        clear hu
        go_wp2
        go_roundw
        case rel => exact ⟨k + 1, by omega, by rw [HTK.out], by go_num, by (repeat (first | exact Below.refl _ _ | assumption | refine Below.drew ?_ | refine Below.alloc ?_ (by first | omega | (simp <;> omega)) _ | refine Below.setCell ?_ (by first | omega | (simp <;> omega)) _))⟩
        case measure => simp [intOf]; omega
      · have hui : ((c.toNat : Int)) = ((greatB c).toNat : Int) := by rw [hu]; unfold greatN; rw [if_neg hlow]
        clear hu
        rw [hui] at hbk
        have hcase : ((greatB c).toNat : Int) < 97 ∨ 122 < ((greatB c).toNat : Int) := by omega
        obtain ⟨d, hd⟩ : ∃ d, greatB c = d := ⟨_, rfl⟩
        rw [hd] at hbk hcase hcc HTK
        clear hui hd
        rcases hcase with h97 | h97
        · go_wp2
          go_roundw
          case rel => exact ⟨k + 1, by omega, by rw [HTK.out], by go_num, by (repeat (first | exact Below.refl _ _ | assumption | refine Below.drew ?_ | refine Below.alloc ?_ (by first | omega | (simp <;> omega)) _ | refine Below.setCell ?_ (by first | omega | (simp <;> omega)) _))⟩
          case measure => simp [intOf]; omega
        · go_wp2
          go_roundw
          case rel => exact ⟨k + 1, by omega, by rw [HTK.out], by go_num, by (repeat (first | exact Below.refl _ _ | assumption | refine Below.drew ?_ | refine Below.alloc ?_ (by first | omega | (simp <;> omega)) _ | refine Below.setCell ?_ (by first | omega | (simp <;> omega)) _))⟩
          case measure => simp [intOf]; omega
    · have hkl : k = x.length := by omega
      subst hkl
      rw [List.take_length]
      have hsmx : x.length ≤ 4611686018427387903 := by omega
      have hsmy : y.length ≤ 4611686018427387903 := by omega
      have hsmg : (x.map greatB).length ≤ 4611686018427387903 := by simp; omega
      have hget : getV T (x.map greatB) = getV T x := by
        unfold getV
        simp only [same_great]
      have hrem := remove_great T x y
      have hnr := named_remove T x
      have HGET := Lib.hid (fun W (hb : Below w1.heap.size w1 W) => tableGet _ T (x.map greatB) hsmg W (HR.out.below hb) HTS.out)
      rw [hget] at HGET
      have hsub : ∀ m, ∀ f ∈ removeL T m, Small f := fun m f hf => HTS.out f (List.mem_filter.1 hf).1
      have hsubl : ∀ m, (removeL T m).length ≤ 45 := fun m => Nat.le_trans (List.length_filter_le _ _) hTl
      go_wp2_with fail
      refine (tableGet _ T x hsmx _ (HR.out.below hB) HTS.out).mono ?_
      rintro e w3 ⟨rfl, hb3⟩
      have hB3 := hB.trans (hb3.mono hzr)
      go_wp2_with fail
      refine (HGET.out _ hB3).mono ?_
      rintro e w4 ⟨rfl, hb4⟩
      have hB4 := hB3.trans (hb4.mono hB3.size)
      obtain ⟨⟨gx, gb⟩, hgv⟩ : ∃ z, getV T x = z := ⟨_, rfl⟩
      rw [hgv]
      simp only
      clear HGET hget hgv
      go_wp2_with fail
      refine (tableRemove _ T x hsmx _ (HR.out.below hB4) HTS.out (by omega)).mono ?_
      rintro e w5 ⟨p1, rfl, ho5, hb5⟩
      have hB5 := hB4.trans (hb5.mono hB4.size)
      have R5 := ho5.reads
      go_wp2_with fail
      refine (tableRemove p1 (removeL T x) y hsmy _ R5 (hsub x) (by have := hsubl x; omega)).mono ?_
      rintro e w6 ⟨p2, rfl, ho6, hb6⟩
      have hB6 := hB5.trans (hb6.mono hB5.size)
      have R6 := Lib.hid ho6.reads
      clear ho5 R5 ho6
      go_wp2_with fail
      refine (tableRemove _ T y hsmy _ (HR.out.below hB6) HTS.out (by omega)).mono ?_
      rintro e w7 ⟨q1, rfl, ho7, hb7⟩
      have hB7 := hB6.trans (hb7.mono hB6.size)
      have R7 := ho7.reads
      go_wp2_with fail
      refine (tableRemove q1 (removeL T y) (x.map greatB) hsmg _ R7 (hsub y) (by have := hsubl y; omega)).mono ?_
      rintro e w8 ⟨q2, rfl, ho8, hb8⟩
      rw [hrem] at ho8
      have hB8 := hB7.trans (hb8.mono hB7.size)
      have R8 := Lib.hid ho8.reads
      have R6' := Lib.hid ((R6.out.below hb7).below hb8)
      clear ho7 R7 ho8 R6 hb3 hb4 hb5 hb6 hb7 hb8
      go_wp2_with fail
      refine (alive _).mono ?_
      rintro e w9 ⟨rfl, hb9⟩
      have hB9 := hB8.trans (hb9.mono hB8.size)
      have C := refLike p2 q2 _ _ w9 (R6'.out.below hb9) (R8.out.below hb9)
      have hNN : (removeL (removeL T x) y == removeL (removeL T x) y) = true := by simp
      rw [hNN] at C
      go_wp2_with fail
      refine C.mono ?_
      rintro e w10 ⟨rfl, hb10⟩
      have hB10 := hB9.trans (hb10.mono hB9.size)
      clear C hNN
      go_wp2_with fail
      refine (tableAll _ T x hsmx _ (HR.out.below hB10) HTS.out (by omega)).mono ?_
      rintro e w11 ⟨av, rfl, ho11, hb11⟩
      have hB11 := hB10.trans (hb11.mono hB10.size)
      obtain ⟨ao, acap, rfl, j1, j2, _⟩ := ho11.shape
      clear ho11
      go_wp2_with fail
      refine (tableRemove _ T x hsmx _ (HR.out.below hB11) HTS.out (by omega)).mono ?_
      rintro e w12 ⟨rv, rfl, ho12, hb12⟩
      have hB12 := hB11.trans (hb12.mono hB11.size)
      obtain ⟨bo, bcap, rfl, j3, j4, _, _⟩ := ho12.reads
      have HFIN := Lib.hid (show (((namedL T x).length : Int) == (T.length : Int) - ((removeL T x).length : Int)) = true by simp; omega)
      have HF := Lib.hid (HB0.out.trans (hB12.mono HB0.out.size))
      clear ho12
      go_wp2
      go_ret
      exact ⟨ret_bool HFIN.out, HF.out⟩
end Go.Proofs.YtbdfidilmaefhaaDoor
