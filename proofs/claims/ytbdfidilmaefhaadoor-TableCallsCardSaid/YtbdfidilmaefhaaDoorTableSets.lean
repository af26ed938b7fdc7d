/- The law TableSets: its walk. -/
import Derived.Test.YtbdfidilmaefhaaDoorSetMath
import Derived.Test.YtbdfidilmaefhaaDoorTableSet
import Derived.Test.YtbdfidilmaefhaaDoorTableJoin
import Derived.Test.YtbdfidilmaefhaaDoorTableCases
namespace Go.Proofs.YtbdfidilmaefhaaDoor
open Go.RowKit Go.Sort Go.Shelf
set_option linter.unusedVariables false

theorem fewL_vals (L : List Fld) : ∀ f ∈ fewL L, f.2.length ≤ 10000 := fun f hf => by
  obtain ⟨g, _, rfl⟩ := List.mem_map.1 hf
  simp [cutF]; omega
theorem mem_ins {R : List Fld} {f g : Fld} {k : Nat} (h : g ∈ R.take k ++ f :: R.drop k) : g = f ∨ g ∈ R := by
  rcases List.mem_append.1 h with h | h
  · exact .inr (List.mem_of_mem_take h)
  · rcases List.mem_cons.1 h with h | h
    · exact .inl h
    · exact .inr (List.mem_of_mem_drop h)
theorem getV_named {L : List Fld} {m : List UInt8} : getV L m = match (namedL L m).head? with | some f => (f.2, true) | none => ([], false) := by
  unfold getV; rw [find_named]; cases (namedL L m).head? <;> rfl

set_option maxHeartbeats 6400000 in
set_option maxRecDepth 100000 in
theorem tableSets_any (v : Value) (L : List (List Value)) (a b c : ByteArray) (w : World) (hv : RowsIn w 2 v L ∧ ∀ c ∈ L, AllSh [.str, .str] c) (h1 : a.size ≤ maxLen) (h2 : b.size ≤ maxLen) (h3 : c.size ≤ maxLen) (_hL : True) :
    Calls Tryd.prog 6 #[v, .string a, .string b, .string c] w fun e w' => e = .returned (.bool true) ∧ Below w.heap.size w w' := by
  obtain ⟨xs, hr0, hxl⟩ := reads_inF hv
  have C0 := Lib.hid (few v xs w hr0 hxl)
  clear hr0 hxl hv
  obtain ⟨T, hT⟩ : ∃ T, fewL xs = T := ⟨_, rfl⟩
  have hTs : ∀ f ∈ T, Small f := by rw [← hT]; exact fewL_small xs
  have hTv : ∀ f ∈ T, f.2.length ≤ 10000 := by rw [← hT]; exact fewL_vals xs
  have hTl : T.length ≤ 45 := by rw [← hT]; exact fewL_len xs
  rw [hT] at C0
  obtain ⟨la, rfl⟩ := S_of a
  obtain ⟨lb, rfl⟩ := S_of b
  obtain ⟨lc, rfl⟩ := S_of c
  rw [S_size] at h1 h2 h3
  have hm : maxLen = 9223372036854775807 := rfl
  rw [hm] at h1 h2 h3
  obtain ⟨p, hp, hp1, hp2, _⟩ := min_take la 60
  obtain ⟨q, hq, hq1, hq2, _⟩ := min_take lb 1010
  obtain ⟨r, hr, hr1, hr2, _⟩ := min_take lc 60
  have hp' : min (la.length : Int) 60 = p := by omega
  have hq' : min (lb.length : Int) 1010 = q := by omega
  have hr' : min (lc.length : Int) 60 = r := by omega
  clear hT hm hp hq hr
  have HTS := Lib.hid hTs
  have HTV := Lib.hid hTv
  clear hTs hTv
  go_enter Tryd.func6, Tryd.ntmps6
  go_wp2_with fail
  refine C0.out.mono ?_
  rintro e w1 ⟨v', rfl, hr, hb0⟩
  have HR := Lib.hid hr
  have HB0 := Lib.hid hb0
  clear hr hb0 C0
  go_wp2_with fail
  go_region
  obtain ⟨n, hn, hnl⟩ : ∃ n, la.take p = n ∧ n.length ≤ 60 := ⟨_, rfl, by simp; omega⟩
  obtain ⟨x, hx, hxl⟩ : ∃ x, lb.take q = x ∧ x.length ≤ 1010 := ⟨_, rfl, by simp; omega⟩
  obtain ⟨o, ho, hol⟩ : ∃ o, lc.take r = o ∧ o.length ≤ 60 := ⟨_, rfl, by simp; omega⟩
  rw [hn, hx, ho]
  clear hn hx ho hp' hq' hr'
  have hb1 : Below w1.heap.size w1 w1.drew := (Below.refl _ _).drew
  obtain ⟨w2, hw2⟩ : ∃ w2, w1.drew = w2 := ⟨_, rfl⟩
  rw [hw2] at hb1 ⊢
  clear hw2
  have hsn : n.length ≤ 4611686018427387903 := by omega
  have hso : o.length ≤ 4611686018427387903 := by omega
  have hsf : Small (n, x) := ⟨hsn, by show x.length ≤ _; omega⟩
  go_wp2_with fail
  refine (tableSet _ T n x _ (HR.out.below hb1) HTS.out hsf (by omega)).mono ?_
  rintro e w3 ⟨av, rfl, hra, hb3⟩
  have hB3 := hb1.trans (hb3.mono hb1.size)
  have HL := Lib.hid (show setL T (n, x) = if setE T (n, x) = 0 then (removeL T n).take (setAt T n) ++ (n, x) :: (removeL T n).drop (setAt T n) else [] from rfl)
  by_cases hz : setE T (n, x) = 0
  · have hnone := none_remove T n
    have hRl : (removeL T n).length ≤ 45 := Nat.le_trans (List.length_filter_le _ _) hTl
    have hRs : ∀ f ∈ removeL T n, Small f ∧ f.2.length ≤ 10000 := fun f hf => ⟨HTS.out f (List.mem_filter.1 hf).1, HTV.out f (List.mem_filter.1 hf).1⟩
    have hot : sameN o n = false → namedL (removeL T n) o = namedL T o := fun h => named_other h
    rw [hz]
    rw [HL.out, if_pos hz] at hra
    obtain ⟨k, hk⟩ : ∃ k, setAt T n = k := ⟨_, rfl⟩
    obtain ⟨R, hR⟩ : ∃ R, removeL T n = R := ⟨_, rfl⟩
    rw [hk, hR] at hra
    rw [hR] at hnone hRl hRs hot
    have hn1 := ins_named (x := x) hnone k
    have hn2 := ins_remove (x := x) hnone k
    have hAs : ∀ f ∈ R.take k ++ (n, x) :: R.drop k, Small f ∧ f.2.length ≤ 10000 := fun f hf => by
      rcases mem_ins hf with rfl | hf
      · exact ⟨hsf, by show x.length ≤ _; omega⟩
      · exact hRs f hf
    have hAl : (R.take k ++ (n, x) :: R.drop k).length ≤ 46 := by simp; omega
    have hio : sameN o n = false → namedL (R.take k ++ (n, x) :: R.drop k) o = namedL T o := fun h => by rw [ins_other h, hot h]
    obtain ⟨A, hA⟩ : ∃ A, R.take k ++ (n, x) :: R.drop k = A := ⟨_, rfl⟩
    rw [hA] at hra hn1 hn2 hAs hAl hio
    have hg1 : getV A n = (x, true) := by rw [getV_named, hn1]; rfl
    have hg2 : getV R n = ([], false) := by rw [getV_named, named_none hnone]; rfl
    have HAS := Lib.hid (fun f hf => (hAs f hf).1)
    have HAV := Lib.hid (fun f hf => (hAs f hf).2)
    have HRS := Lib.hid (fun f hf => (hRs f hf).1)
    have HIO := Lib.hid hio
    have HRA := Lib.hid hra
    have HRR := Lib.hid hR
    obtain ⟨aao, acap, rfl, i1, i2, i3, i4⟩ := hra
    clear i3 i4 hAs hRs hot hio hnone hk hA hz HL hR
    go_wp2_with fail
    refine (tableAll _ A n hsn _ HRA.out HAS.out (by omega)).mono ?_
    rintro e w4 ⟨gv, rfl, ho4, hb4⟩
    rw [hn1] at ho4
    have hB4 := hB3.trans (hb4.mono hB3.size)
    go_wp2_with fail
    refine (tableGet _ A n hsn _ (HRA.out.below hb4) HAS.out).mono ?_
    rintro e w5 ⟨rfl, hb5⟩
    rw [hg1]
    simp only
    have hb45 := hb4.trans (hb5.mono hb4.size)
    have hB5 := hB4.trans (hb5.mono hB4.size)
    go_wp2_with fail
    refine (tableRemove _ A n hsn _ (HRA.out.below hb45) HAS.out (by omega)).mono ?_
    rintro e w6 ⟨dv, rfl, ho6, hb6⟩
    rw [hn2] at ho6
    have hb46 := hb45.trans (hb6.mono hb45.size)
    have hB6 := hB5.trans (hb6.mono hB5.size)
    have R6 := ho6.reads
    go_wp2_with fail
    refine (tableGet _ R n hsn _ R6 HRS.out).mono ?_
    rintro e w7 ⟨rfl, hb7⟩
    rw [hg2]
    simp only
    have hb47 := hb46.trans (hb7.mono hb46.size)
    have hB7 := hB6.trans (hb7.mono hB6.size)
    have R7 := R6.below hb7
    obtain ⟨g, gcap, rfl, j1, j2, j3, j4⟩ := ((ho4.below hb5).below hb6).below hb7 |>.at 0 (by simp)
    have c0 := j4 0 (by simp)
    simp only [List.map_cons, List.map_nil, List.length_cons, List.length_nil, List.getElem_cons_zero] at c0 j1
    clear ho4 ho6 R6 j4 hn1 hn2 hg1 hg2
    go_wp2_with fail
    refine (tableRemove _ T n hsn _ (HR.out.below hB7) HTS.out (by omega)).mono ?_
    rintro e w8 ⟨rv, rfl, ho8, hb8⟩
    rw [HRR.out] at ho8
    have hb48 := hb47.trans (hb8.mono hb47.size)
    have hB8 := hB7.trans (hb8.mono hB7.size)
    have C := refLike _ rv R R w8 (R7.below hb8) ho8.reads
    have hNN : (R == R) = true := by simp
    rw [hNN] at C
    go_wp2_with fail
    refine C.mono ?_
    rintro e w9 ⟨rfl, hb9⟩
    have hb49 := hb48.trans (hb9.mono hb48.size)
    have hB9 := hB8.trans (hb9.mono hB8.size)
    clear C hNN ho8
    go_wp2_with fail
    refine (alive _).mono ?_
    rintro e w10 ⟨rfl, hb10⟩
    have hbA := hb49.trans (hb10.mono hb49.size)
    have hBA := hB9.trans (hb10.mono hB9.size)
    clear hb4 hb5 hb6 hb7 hb8 hb9 hb10 hb45 hb46 hb47 hb48 hb49 hB3 hB4 hB5 hB6 hB7 hB8 hB9 R7 c0 j1 j2 j3
    go_wp2_with fail
    refine (tableJoined _ A o hso _ (HRA.out.below hbA) HAS.out HAV.out (by omega)).mono ?_
    rintro e w11 ⟨rfl, hb11⟩
    have hBB := hBA.trans (hb11.mono hBA.size)
    go_wp2_with fail
    refine (tableJoined _ T o hso _ (HR.out.below hBB) HTS.out HTV.out (by omega)).mono ?_
    rintro e w12 ⟨rfl, hb12⟩
    have hBC := hBB.trans (hb12.mono hBB.size)
    have HBC := Lib.hid hBC
    have hzc := hBC.size
    clear hb11 hb12 hBA hBB hbA
    have hone := one_remove o n
    cases hs : sameN o n with
    | true =>
      rw [hs, if_pos rfl] at hone
      go_wp2_with fail
      refine Calls.mono (refRemove (.slice (some ⟨w12.heap.size, 0, none⟩) 1 1) [(o, [])] n hsn (w12.alloc (.cells #[.string (S o), .string (S [])] 25)) ⟨some ⟨w12.heap.size, 0, none⟩, 1, rfl, Nat.le_refl _, by decide, (fun h => by cases h), fun _ => ⟨w12.heap.size, 0, rfl, by simp, fun j hj => by
        obtain rfl : j = 0 := by simp at hj; omega
        exact ⟨by simp, by simp⟩⟩⟩ (fun f hf => by simp at hf; subst hf; exact ⟨hso, by simp⟩) (by simp)) ?_
      rintro e w14 ⟨rv2, rfl, ho14, hb14⟩
      rw [hone] at ho14
      have hbD := Below.trans (show Below w12.heap.size w12 _ by (repeat (first | exact Below.refl _ _ | assumption | refine Below.drew ?_ | refine Below.alloc ?_ (by first | omega | (simp <;> omega)) _ | refine Below.setCell ?_ (by first | omega | (simp <;> omega)) _))) (hb14.mono (by simp))
      have C := refLike rv2 (.slice none 0 0) [] [] w14 ho14.reads (ReadsF.nil _)
      have hNN : (([] : List Fld) == []) = true := rfl
      rw [hNN] at C
      clear ho14 hNN hone
      have HF := Lib.hid (HB0.out.trans ((hBC.trans (hbD.mono hzc)).mono HB0.out.size))
      go_wp2_with fail
      refine C.mono ?_
      rintro e w15 ⟨rfl, hb15⟩
      have hF := HF.out.trans (hb15.mono HF.out.size)
      go_wp2
      go_ret
      exact ⟨rfl, hF⟩
    | false =>
      rw [hs, if_neg (by simp)] at hone
      have e1 := HIO.out hs
      have e2 : joinedL A o = joinedL T o := by unfold joinedL; rw [e1]
      rw [e2, e1]
      obtain ⟨js, hjs⟩ : ∃ js, joinedL T o = js := ⟨_, rfl⟩
      obtain ⟨jb, hjb⟩ : ∃ jb, decide (0 < (namedL T o).length) = jb := ⟨_, rfl⟩
      rw [hjs, hjb]
      clear e1 e2 hjs hjb
      go_wp2_with fail
      refine Calls.mono (refRemove (.slice (some ⟨w12.heap.size, 0, none⟩) 1 1) [(o, [])] n hsn (w12.alloc (.cells #[.string (S o), .string (S [])] 25)) ⟨some ⟨w12.heap.size, 0, none⟩, 1, rfl, Nat.le_refl _, by decide, (fun h => by cases h), fun _ => ⟨w12.heap.size, 0, rfl, by simp, fun j hj => by
        obtain rfl : j = 0 := by simp at hj; omega
        exact ⟨by simp, by simp⟩⟩⟩ (fun f hf => by simp at hf; subst hf; exact ⟨hso, by simp⟩) (by simp)) ?_
      rintro e w14 ⟨rv2, rfl, ho14, hb14⟩
      rw [hone] at ho14
      have hbD := Below.trans (show Below w12.heap.size w12 _ by (repeat (first | exact Below.refl _ _ | assumption | refine Below.drew ?_ | refine Below.alloc ?_ (by first | omega | (simp <;> omega)) _ | refine Below.setCell ?_ (by first | omega | (simp <;> omega)) _))) (hb14.mono (by simp))
      have C := refLike rv2 (.slice none 0 0) [(o, [])] [] w14 ho14.reads (ReadsF.nil _)
      have hNN : (([(o, [])] : List Fld) == []) = false := rfl
      rw [hNN] at C
      clear ho14 hNN hone
      have HF := Lib.hid (HB0.out.trans ((hBC.trans (hbD.mono hzc)).mono HB0.out.size))
      go_wp2_with fail
      refine C.mono ?_
      rintro e w15 ⟨rfl, hb15⟩
      have hF := HF.out.trans (hb15.mono HF.out.size)
      go_wp2
      go_ret
      exact ⟨rfl, hF⟩
  · have e3 : setL T (n, x) = [] := by rw [HL.out, if_neg hz]
    rw [e3] at hra
    obtain ⟨ao, cap, rfl, k1, k2, _, _⟩ := hra
    have hz' : (setE T (n, x) != 0) = true := by simpa using hz
    obtain ⟨ae, hae⟩ : ∃ ae, setE T (n, x) = ae := ⟨_, rfl⟩
    rw [hae] at hz' ⊢
    clear hae e3 HL hz
    have HF := Lib.hid (HB0.out.trans (hB3.mono HB0.out.size))
    go_wp2_with fail
    refine (alive _).mono ?_
    rintro e w4 ⟨rfl, hb4⟩
    have hF := HF.out.trans (hb4.mono HF.out.size)
    go_wp2
    go_ret
    exact ⟨rfl, hF⟩
end Go.Proofs.YtbdfidilmaefhaaDoor
