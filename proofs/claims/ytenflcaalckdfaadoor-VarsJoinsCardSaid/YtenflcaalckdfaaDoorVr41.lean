/- The law VarsJoins: its walk. -/
import Derived.Test.YtenflcaalckdfaaDoorVr35
import Derived.Test.YtenflcaalckdfaaDoorVr40
import Derived.Test.YtenflcaalckdfaaDoorVr15
import Derived.Test.YtenflcaalckdfaaDoorVr36
import Derived.Shelf.Strings.Replace
namespace Go.Proofs.YtenflcaalckdfaaDoor
open Go Go.RowKit Go.Sort Go.Shelf
set_option linter.unusedVariables false
set_option linter.unusedSimpArgs false

theorem reads_in {w : World} {v : Value} {L : List (List Value)} (hv : RowsIn w 1 v L ∧ ∀ c ∈ L, AllSh [.str] c) : ∃ xs, Reads w v xs ∧ ∀ x ∈ xs, x.length ≤ 9223372036854775807 := by
  obtain ⟨hrow, hsh⟩ := hv
  obtain ⟨xs, rfl, hxs⟩ := decode (fun x : List UInt8 => [Value.string (S x)]) (R := fun x => x.length ≤ 9223372036854775807) (fun c h => by
    obtain ⟨_, _, rfl, ⟨s, rfl, hs⟩, rfl⟩ := h
    obtain ⟨l, rfl⟩ := S_of s
    exact ⟨l, rfl, by rw [S_size] at hs; exact hs⟩) L hsh
  obtain ⟨a, len, cap, rfl, hl, hm, hlen, _, hcell⟩ := hrow
  rw [List.length_map] at hlen
  subst hlen
  refine ⟨xs, ⟨a, cap, rfl, hl, hm, fun h0 => ?_⟩, hxs⟩
  obtain ⟨b, off, e1, e2, e3⟩ := hcell h0 (by omega)
  refine ⟨b, off, e1, e2, fun j hj => ?_⟩
  have := e3 j 0 hj (by omega)
  rw [Nat.mul_one, Nat.add_zero] at this
  rw [this]
  simp [List.getD, hj]
theorem replaceAll_S {s r : List UInt8} (hs : s.length ≤ 1000) (h : Lib.replaceAll s [36] [83] = r) (W : World) (hM : ML W) : Calls Tryd.prog 12 #[.string (S s), .string (S [36]), .string (S [83])] W fun e w' => e = .returned (.string (S r)) ∧ Below W.heap.size W w' := by
  obtain ⟨m, hm⟩ := hM
  refine (Tryd.strings_ReplaceAll (S s) (S [36]) (S [83]) m W (by rw [S_size]; omega) hm (by decide) (by
    have := Lib.countB_le (S [36]) (by decide) _ (S s) (Nat.le_refl _)
    rw [S_size] at this ⊢
    have e : (S [83]).size = 1 := by decide
    rw [e]
    omega)).mono fun e w' ⟨h1, h2⟩ => ⟨?_, h2⟩
  rw [h1]
  simp only [S_data]
  rw [h]
  rfl
/-- The reference's text of round i. -/
def dT (i : Nat) : List UInt8 := if i % 2 = 0 then [100] else [39, 100, 39]
theorem joins_val (e : En) (c k : List UInt8) : valV e (88 :: c) k = ([], false) := by
  unfold valV hostN refN agentN cookieN queryN langN'
  simp
theorem joins_ref (e : En) {c k : List UInt8} (hc : ∀ x ∈ c, letterB x = true) (hk : ∀ x ∈ k, notIn badK x = true) (i : Nat) (X : List UInt8) :
    subV e (36 :: 40 :: (88 :: c ++ (keyT k ++ ((124 :: dT i) ++ 41 :: X)))) = 100 :: subV e X := by
  have hO : otherP ((124 :: dT i) ++ 41 :: X) = some ([100], 41 :: X) := by
    unfold dT
    split
    · exact otherP_bare (o := [100]) (by decide)
    · exact otherP_quo (o := [100]) (X := 41 :: X) (by decide)
  have h := refP_text (name := 88 :: c) (k := k) (O := 124 :: dT i) (o := [100]) (X := X) (by simp) (by
    intro x hx
    rcases List.mem_cons.1 hx with rfl | hx
    · decide
    · exact hc x hx) hk hO (by intro y hy; simp at hy; subst hy; decide)
  have ho := joins_val e c k
  rw [subV_text h (pre := 36 :: 40 :: (88 :: c ++ (keyT k ++ (124 :: dT i)))) (by simp), ho]
  rfl
set_option maxHeartbeats 3200000 in
set_option maxRecDepth 100000 in
theorem varsJoins_any (a0 a1 a2 a3 a4 a5 : ByteArray) (v : Value) (L : List (List Value)) (b c : ByteArray) (w : World) (h0 : a0.size ≤ maxLen) (h1 : a1.size ≤ maxLen) (h2 : a2.size ≤ maxLen) (h3 : a3.size ≤ maxLen) (h4 : a4.size ≤ maxLen) (h5 : a5.size ≤ maxLen) (hv : RowsIn w 1 v L ∧ ∀ c ∈ L, AllSh [.str] c) (hb : b.size ≤ maxLen) (hc : c.size ≤ maxLen) (_hL : True) (hM : ∃ m, w.cell? ⟨0, 0, none⟩ = some (.int .i64 m)) :
    Calls Tryd.prog 5 #[.agg #[.string a0, .string a1, .string a2, .string a3, .string a4, .string a5], v, .string b, .string c] w fun x w' => x = .returned (.bool true) ∧ Below w.heap.size w w' := by
  obtain ⟨l0, rfl⟩ := S_of a0
  obtain ⟨l1, rfl⟩ := S_of a1
  obtain ⟨l2, rfl⟩ := S_of a2
  obtain ⟨l3, rfl⟩ := S_of a3
  obtain ⟨l4, rfl⟩ := S_of a4
  obtain ⟨l5, rfl⟩ := S_of a5
  obtain ⟨nm, rfl⟩ := S_of b
  obtain ⟨ky, rfl⟩ := S_of c
  simp only [S_size] at h0 h1 h2 h3 h4 h5 hb hc
  obtain ⟨xs, ⟨ao, cap, rfl, hc1, hc2, hr⟩, hxl⟩ := reads_in hv
  have hm : maxLen = 9223372036854775807 := rfl
  rw [hm] at h0 h1 h2 h3 h4 h5 hb hc hc2
  clear hm hv
  have FE := Lib.hid (fun W => vars_few ⟨l0, l1, l2, l3, l4, l5⟩ ⟨h0, h1, h2, h3, h4, h5⟩ W)
  have hcf := En.cut_few ⟨l0, l1, l2, l3, l4, l5⟩
  obtain ⟨e, he⟩ : ∃ e, En.cut ⟨l0, l1, l2, l3, l4, l5⟩ = e := ⟨_, rfl⟩
  rw [he] at FE hcf
  have SU := Lib.hid (fun (s t : List UInt8) (hs : s.length ≤ 13000) (ht : subV e s = t) W (hb : Below w.heap.size w W) => ht ▸ varsSub e hcf s hs W (ML.later hM (GG.of_below hb)))
  have VA := Lib.hid (fun (c k : List UInt8) (hcl : c.length ≤ 1000) (hk : k.length ≤ 1000) W (hb : Below w.heap.size w W) => (joins_val e c k) ▸ varsValue e hcf (88 :: c) k (by simp; omega) (by omega) W (ML.later hM (GG.of_below hb)))
  have SN := Lib.hid (fun (t : List UInt8) (h : (36 : UInt8) ∉ t) => subV_no e t h)
  have SPR := Lib.hid (fun (a t : List UInt8) (h : (36 : UInt8) ∉ a) => subV_pre e a t h)
  have JR := Lib.hid (fun (c k : List UInt8) (hc : ∀ x ∈ c, letterB x = true) (hk : ∀ x ∈ k, notIn badK x = true) i X => joins_ref e hc hk i X)
  have AL := Lib.hid (fun W (hb : Below w.heap.size w W) => vars_alive W (ML.later hM (GG.of_below hb)))
  have SH := Lib.hid (fun (l : List UInt8) (hl : l.length ≤ 9223372036854775807) W => vars_short l hl W)
  have RP := Lib.hid (fun (s r : List UInt8) (hs : s.length ≤ 1000) (h : Lib.replaceAll s [36] [83] = r) W (hb : Below w.heap.size w W) => replaceAll_S hs h W (ML.later hM (GG.of_below hb)))
  have SUN := Lib.hid (subV_nil e)
  obtain ⟨f0, f1, f2, f3, f4, f5⟩ := e
  unfold En.v at *
  simp only at FE
  have HR := Lib.hid hr
  have HXL := Lib.hid hxl
  obtain ⟨n, hn, hn10, hnl⟩ : ∃ n : Nat, min (xs.length : Int) 10 = n ∧ n ≤ 10 ∧ n ≤ xs.length := ⟨min xs.length 10, by omega, by omega, by omega⟩
  obtain ⟨m, hm, hml, hm30⟩ : ∃ m : Nat, min (nm.length : Int) 30 = m ∧ m ≤ nm.length ∧ m ≤ 30 := ⟨min nm.length 30, by omega, by omega, by omega⟩
  obtain ⟨q, hq, hql, hq30⟩ : ∃ q : Nat, min (ky.length : Int) 30 = q ∧ q ≤ ky.length ∧ q ≤ 30 := ⟨min ky.length 30, by omega, by omega, by omega⟩
  clear he hcf hM h0 h1 h2 h3 h4 h5 hr hxl
  go_enter Tryd.func5, Tryd.ntmps5
  go_wp2_with fail
  refine Calls.mono (FE.out _) ?_
  rintro e w1 ⟨rfl, hb_w1⟩
  have hz_w1 := hb_w1.size
  try simp at hz_w1
  obtain ⟨c_w1_w_0, f_w1_w_0⟩ := bk hb_w1 (w.heap.size) (by first | omega | (simp <;> omega))
  have c_w1_w_0_0 := c_w1_w_0 0
  conv at c_w1_w_0_0 => rhs; simp [go_sem, *]
  have f_w1_w_0_0 := f_w1_w_0 0
  conv at f_w1_w_0_0 => rhs; simp [go_sem, *]
  have c_w1_w_0_1 := c_w1_w_0 1
  conv at c_w1_w_0_1 => rhs; simp [go_sem, *]
  have f_w1_w_0_1 := f_w1_w_0 1
  conv at f_w1_w_0_1 => rhs; simp [go_sem, *]
  have c_w1_w_0_2 := c_w1_w_0 2
  conv at c_w1_w_0_2 => rhs; simp [go_sem, *]
  have f_w1_w_0_2 := f_w1_w_0 2
  conv at f_w1_w_0_2 => rhs; simp [go_sem, *]
  have c_w1_w_0_3 := c_w1_w_0 3
  conv at c_w1_w_0_3 => rhs; simp [go_sem, *]
  have f_w1_w_0_3 := f_w1_w_0 3
  conv at f_w1_w_0_3 => rhs; simp [go_sem, *]
  have c_w1_w_0_4 := c_w1_w_0 4
  conv at c_w1_w_0_4 => rhs; simp [go_sem, *]
  have f_w1_w_0_4 := f_w1_w_0 4
  conv at f_w1_w_0_4 => rhs; simp [go_sem, *]
  have c_w1_w_0_5 := c_w1_w_0 5
  conv at c_w1_w_0_5 => rhs; simp [go_sem, *]
  have f_w1_w_0_5 := f_w1_w_0 5
  conv at f_w1_w_0_5 => rhs; simp [go_sem, *]
  have HH_w1 := Lib.hid hb_w1
  have hB_w1 : Below w.heap.size w w1 := Below.trans (by (repeat (first | (with_reducible exact Below.refl _ _) | (with_reducible assumption) | (with_reducible refine Below.drew ?_) | (focus ((with_reducible refine Below.setCell ?_ ?_ _); rotate_left; (first | omega | (simp <;> omega)))) | (focus ((with_reducible refine Below.alloc ?_ ?_ _); rotate_left; (first | omega | (simp <;> omega)))) | exact Below.refl _ _ | assumption | refine Below.drew ?_ | refine Below.alloc ?_ (by first | omega | (simp <;> omega)) _ | refine Below.setCell ?_ (by first | omega | (simp <;> omega)) _))) (hb_w1.mono (by first | omega | (simp <;> omega)))
  clear hb_w1 c_w1_w_0 f_w1_w_0
  have far_w1_w_0 := far (show w.heap.size < w1.heap.size by omega)
  go_wp2
  try simp only [mk_S]
  go_loop [11, 31] (fun pv iv => ∃ (k : Nat) (p : List UInt8), iv = .int .i64 k ∧ pv = .string (S p) ∧ k ≤ m ∧ (∀ x ∈ p, letterB x = true) ∧ p.length ≤ k) (fun _ iv => m - (intOf iv).toNat)
  case atStart => exact ⟨0, [], rfl, rfl, Nat.zero_le _, by simp, by simp⟩
  case round =>
    obtain ⟨k, p, rfl, rfl, hk, hp, hpl⟩ := hrel
    have HP := Lib.hid hp
    clear hp
    by_cases hkm : k < m
    · have hks : k < nm.length := by omega
      have hbat := bAt_eq hks
      obtain ⟨c, hc⟩ : ∃ c, nm[k] = c := ⟨_, rfl⟩
      rw [hc] at hbat
      have hsl : (nm.take (k + 1)).drop k = [c] := by rw [List.drop_take, show k + 1 - k = 1 by omega, List.drop_eq_getElem_cons hks, hc]; rfl
      have HPC := Lib.hid (fun (h : letterB c = true) => (show ∀ x ∈ p ++ [c], letterB x = true from fun x hx => (List.mem_append.1 hx).elim (fun h' => HP.out x h') (fun h' => by rw [List.mem_singleton.1 h']; exact h)))
      have LB := Lib.hid (show letterB c = ((decide (65 ≤ c.toNat) && decide (c.toNat ≤ 90)) || decide (c.toNat = 95)) from rfl)
      clear hc
      obtain ⟨z, hz⟩ : ∃ z, c.toNat = z := ⟨_, rfl⟩
      rw [hz] at hbat LB
      clear hz
      by_cases g1 : 65 ≤ z
      · have i1 : (65 : Int) ≤ bAt nm k := by omega
        by_cases g2 : z ≤ 90
        · have i2 : bAt nm k ≤ (90 : Int) := by omega
          have HL := Lib.hid (HPC.out (by rw [LB.out]; simp; omega))
          clear hbat
          go_wp2_with fail
          go_round
          case rel => exact ⟨k + 1, p ++ [c], by go_num, rfl, by omega, HL.out, by simp; omega⟩
          case measure => simp [intOf]; omega
        · have i2 : ¬ bAt nm k ≤ (90 : Int) := by omega
          by_cases g3 : z = 95
          · have i3 : (bAt nm k == (95 : Int)) = true := by rw [hbat, g3]; rfl
            have HL := Lib.hid (HPC.out (by rw [LB.out]; simp; omega))
            clear hbat
            go_wp2_with fail
            go_round
            case rel => exact ⟨k + 1, p ++ [c], by go_num, rfl, by omega, HL.out, by simp; omega⟩
            case measure => simp [intOf]; omega
          · have i3 : (bAt nm k == (95 : Int)) = false := by simp only [beq_eq_false_iff_ne, ne_eq]; omega
            clear hbat
            go_wp2_with fail
            go_round
            case rel => exact ⟨k + 1, p, by go_num, rfl, by omega, HP.out, by omega⟩
            case measure => simp [intOf]; omega
      · have i1 : ¬ (65 : Int) ≤ bAt nm k := by omega
        have i3 : (bAt nm k == (95 : Int)) = false := by simp only [beq_eq_false_iff_ne, ne_eq]; omega
        clear hbat
        go_wp2_with fail
        go_round
        case rel => exact ⟨k + 1, p, by go_num, rfl, by omega, HP.out, by omega⟩
        case measure => simp [intOf]; omega
    · obtain rfl : k = m := by omega
      go_wp2
      try simp only [mk_S]
      go_loop [15, 60] (fun pv iv => ∃ (i : Nat) (y : List UInt8), iv = .int .i64 i ∧ pv = .string (S y) ∧ i ≤ q ∧ (∀ x ∈ y, notIn badK x = true) ∧ y.length ≤ i) (fun _ iv => q - (intOf iv).toNat)
      case atStart => exact ⟨0, [], rfl, rfl, Nat.zero_le _, by simp, by simp⟩
      case round =>
        obtain ⟨i, y, rfl, rfl, hi, hy, hyl⟩ := hrel
        have HY := Lib.hid hy
        clear hy
        by_cases hiq : i < q
        · have hks : i < ky.length := by omega
          have hbat := bAt_eq hks
          obtain ⟨c, hc⟩ : ∃ c, ky[i] = c := ⟨_, rfl⟩
          rw [hc] at hbat
          have hsl : (ky.take (i + 1)).drop i = [c] := by rw [List.drop_take, show i + 1 - i = 1 by omega, List.drop_eq_getElem_cons hks, hc]; rfl
          have HPC := Lib.hid (fun (h : notIn badK c = true) => (show ∀ x ∈ y ++ [c], notIn badK x = true from fun x hx => (List.mem_append.1 hx).elim (fun h' => HY.out x h') (fun h' => by rw [List.mem_singleton.1 h']; exact h)))
          obtain ⟨z, hz⟩ : ∃ z, Lib.indexByte badK c = z := ⟨_, rfl⟩
          have LB := Lib.hid (show notIn badK c = decide (z < 0) by unfold notIn; rw [hz])
          have IB := Lib.hid (fun W => indexByte_S (s := badK) (c := bAt ky i) (i := z) (by rw [hbat]; simpa using hz) W)
          unfold badK at IB
          clear hc hz hbat
          by_cases g1 : z < 0
          · have HL := Lib.hid (HPC.out (by rw [LB.out]; simpa using g1))
            go_wp2_with (go_at_call 11; refine Calls.mono (IB.out _) ?_; rintro e wq ⟨rfl, hwq⟩; obtain rfl := hwq.symm)
            go_round
            case rel => exact ⟨i + 1, y ++ [c], by go_num, rfl, by omega, HL.out, by simp; omega⟩
            case measure => simp [intOf]; omega
          · go_wp2_with (go_at_call 11; refine Calls.mono (IB.out _) ?_; rintro e wq ⟨rfl, hwq⟩; obtain rfl := hwq.symm)
            go_round
            case rel => exact ⟨i + 1, y, by go_num, rfl, by omega, HY.out, by omega⟩
            case measure => simp [intOf]; omega
        · obtain rfl : i = q := by omega
          by_cases hy0 : y = []
          · subst hy0
            have HJ := Lib.hid (fun i X => JR.out p [] HP.out (by simp) i X)
            obtain ⟨T, hT⟩ : ∃ T, 36 :: 40 :: 88 :: p = T := ⟨_, rfl⟩
            have hTl : T.length ≤ 80 := by rw [← hT]; simp only [List.length_cons, List.length_append, List.length_nil]; omega
            have HJT := Lib.hid (show ∀ i X, subV ⟨f0, f1, f2, f3, f4, f5⟩ (T ++ ((124 :: dT i) ++ 41 :: X)) = 100 :: subV ⟨f0, f1, f2, f3, f4, f5⟩ X from fun i X => by rw [← HJ.out i X, ← hT]; simp [keyT])
            go_wp2
            try simp only [mk_S]
            clear hT HJ
            go_loopw [9, 10, 85] (fun av qv iv wr => ∃ (j : Nat) (A Q : List UInt8), iv = .int .i64 j ∧ av = .string (S A) ∧ qv = .string (S Q) ∧ j ≤ n ∧ A.length ≤ 700 * j ∧ Q.length ≤ 700 * j ∧ (∀ X, subV ⟨f0, f1, f2, f3, f4, f5⟩ (A ++ X) = Q ++ subV ⟨f0, f1, f2, f3, f4, f5⟩ X) ∧ w.heap.size < wr.heap.size ∧ (wr.cell? ⟨w.heap.size, 0, none⟩ = some (.string (S f0)) ∧ wr.cell? ⟨w.heap.size, 1, none⟩ = some (.string (S f1)) ∧ wr.cell? ⟨w.heap.size, 2, none⟩ = some (.string (S f2)) ∧ wr.cell? ⟨w.heap.size, 3, none⟩ = some (.string (S f3)) ∧ wr.cell? ⟨w.heap.size, 4, none⟩ = some (.string (S f4)) ∧ wr.cell? ⟨w.heap.size, 5, none⟩ = some (.string (S f5))) ∧ Below w.heap.size w wr) (fun _ _ iv _ => n - (intOf iv).toNat)
            case atStart => exact ⟨0, [], [], rfl, rfl, rfl, Nat.zero_le _, by simp, by simp, fun X => rfl, by simp; omega, ⟨by simp [go_sem, *], by simp [go_sem, *], by simp [go_sem, *], by simp [go_sem, *], by simp [go_sem, *], by simp [go_sem, *]⟩, by (repeat (first | (with_reducible exact Below.refl _ _) | (with_reducible assumption) | (with_reducible refine Below.drew ?_) | (focus ((with_reducible refine Below.setCell ?_ ?_ _); rotate_left; (first | omega | (simp <;> omega)))) | (focus ((with_reducible refine Below.alloc ?_ ?_ _); rotate_left; (first | omega | (simp <;> omega)))) | exact Below.refl _ _ | assumption | refine Below.drew ?_ | refine Below.alloc ?_ (by first | omega | (simp <;> omega)) _ | refine Below.setCell ?_ (by first | omega | (simp <;> omega)) _))⟩
            case round =>
              obtain ⟨j, A, Q, rfl, rfl, rfl, hj, hAl, hQl, hAQ, hzr, ⟨c0, c1, c2, c3, c4, c5⟩, hB⟩ := hrel
              have HAQ := Lib.hid hAQ
              have HB := Lib.hid hB
              have hzw := hB.size
              have far1 := far hzr
              clear hAQ
              by_cases hjn : j < n
              · have hjx : j < xs.length := by omega
                obtain ⟨bb, off, rfl, hbb, hcell⟩ := HR.out (by omega)
                have e1 := hcell j hjx
                rw [← hB.cell (p := ⟨bb, off + j, none⟩) hbb] at e1
                have hxk := HXL.out _ (List.getElem_mem hjx)
                obtain ⟨x, hx⟩ : ∃ x, xs[j] = x := ⟨_, rfl⟩
                rw [hx] at e1 hxk
                have SH1 := Lib.hid (fun W => SH.out x hxk W)
                obtain ⟨x2, hx2⟩ : ∃ x2, x.take 600 = x2 := ⟨_, rfl⟩
                have hx2l : x2.length ≤ 600 := by rw [← hx2, List.length_take]; omega
                rw [hx2] at SH1
                obtain ⟨r, hr⟩ : ∃ r, Lib.replaceAll x2 [36] [83] = r := ⟨_, rfl⟩
                have RP1 := Lib.hid (fun W hb => RP.out x2 r (by omega) hr W hb)
                have hra := replAll_one (c := 36) (d := 83) (by decide) x2
                rw [hr] at hra
                obtain ⟨hr36, hrl⟩ := hra
                have SU1 := Lib.hid (fun W hb => SU.out r r (by omega) (SN.out r hr36) W hb)
                have VA1 := Lib.hid (fun W hb => VA.out p [] (by omega) (by simp) W hb)
                unfold pairV at VA1
                have hri : (r.length : Int) ≤ 600 := by omega
                have HN := Lib.hid (show ∀ X, subV ⟨f0, f1, f2, f3, f4, f5⟩ ((A ++ (r ++ (T ++ ((124 :: dT j) ++ [41])))) ++ X) = (Q ++ (r ++ [100])) ++ subV ⟨f0, f1, f2, f3, f4, f5⟩ X from fun X => by
                  have h1 := HAQ.out (r ++ (T ++ ((124 :: dT j) ++ 41 :: X)))
                  rw [SPR.out r _ hr36, HJT.out j X] at h1
                  rw [show (A ++ (r ++ (T ++ ((124 :: dT j) ++ [41])))) ++ X = A ++ (r ++ (T ++ ((124 :: dT j) ++ 41 :: X))) by simp, h1]
                  simp)
                have hAi : (A.length : Int) ≤ 700 * j := by omega
                have hQi : (Q.length : Int) ≤ 700 * j := by omega
                clear hcell hx hx2 hr hB
                by_cases hpar : j % 2 = 0
                · have hmod : ((j : Int).tmod 2) = 0 := by rw [Int.tmod_eq_emod_of_nonneg (by omega)]; omega
                  have hmod2 : ((j : Int) % 2) = 0 := by omega
                  have hd : dT j = [100] := by unfold dT; rw [if_pos hpar]
                  rw [hd] at HN
                  go_wp2_with (go_at_call 13; refine Calls.mono (SH1.out _) ?_; rintro e wq ⟨rfl, hwq⟩; obtain rfl := hwq.symm)
                  go_wp2_with fail
                  refine Calls.mono (RP1.out _ HB.out) ?_
                  rintro e w3 ⟨rfl, hb_w3⟩
                  have hz_w3 := hb_w3.size
                  try simp at hz_w3
                  obtain ⟨c_w3_w_0, f_w3_w_0⟩ := bk hb_w3 (w.heap.size) (by first | omega | (simp <;> omega))
                  have c_w3_w_0_0 := c_w3_w_0 0
                  conv at c_w3_w_0_0 => rhs; simp [go_sem, *]
                  have f_w3_w_0_0 := f_w3_w_0 0
                  conv at f_w3_w_0_0 => rhs; simp [go_sem, *]
                  have c_w3_w_0_1 := c_w3_w_0 1
                  conv at c_w3_w_0_1 => rhs; simp [go_sem, *]
                  have f_w3_w_0_1 := f_w3_w_0 1
                  conv at f_w3_w_0_1 => rhs; simp [go_sem, *]
                  have c_w3_w_0_2 := c_w3_w_0 2
                  conv at c_w3_w_0_2 => rhs; simp [go_sem, *]
                  have f_w3_w_0_2 := f_w3_w_0 2
                  conv at f_w3_w_0_2 => rhs; simp [go_sem, *]
                  have c_w3_w_0_3 := c_w3_w_0 3
                  conv at c_w3_w_0_3 => rhs; simp [go_sem, *]
                  have f_w3_w_0_3 := f_w3_w_0 3
                  conv at f_w3_w_0_3 => rhs; simp [go_sem, *]
                  have c_w3_w_0_4 := c_w3_w_0 4
                  conv at c_w3_w_0_4 => rhs; simp [go_sem, *]
                  have f_w3_w_0_4 := f_w3_w_0 4
                  conv at f_w3_w_0_4 => rhs; simp [go_sem, *]
                  have c_w3_w_0_5 := c_w3_w_0 5
                  conv at c_w3_w_0_5 => rhs; simp [go_sem, *]
                  have f_w3_w_0_5 := f_w3_w_0 5
                  conv at f_w3_w_0_5 => rhs; simp [go_sem, *]
                  have HH_w3 := Lib.hid hb_w3
                  have hB_w3 : Below wr.heap.size wr w3 := Below.trans (by (repeat (first | (with_reducible exact Below.refl _ _) | (with_reducible assumption) | (with_reducible refine Below.drew ?_) | (focus ((with_reducible refine Below.setCell ?_ ?_ _); rotate_left; (first | omega | (simp <;> omega)))) | (focus ((with_reducible refine Below.alloc ?_ ?_ _); rotate_left; (first | omega | (simp <;> omega)))) | exact Below.refl _ _ | assumption | refine Below.drew ?_ | refine Below.alloc ?_ (by first | omega | (simp <;> omega)) _ | refine Below.setCell ?_ (by first | omega | (simp <;> omega)) _))) (hb_w3.mono (by first | omega | (simp <;> omega)))
                  clear hb_w3 c_w3_w_0 f_w3_w_0
                  try clear c_w1_w_0_0
                  try clear f_w1_w_0_0
                  try clear c_w1_w_0_1
                  try clear f_w1_w_0_1
                  try clear c_w1_w_0_2
                  try clear f_w1_w_0_2
                  try clear c_w1_w_0_3
                  try clear f_w1_w_0_3
                  try clear c_w1_w_0_4
                  try clear f_w1_w_0_4
                  try clear c_w1_w_0_5
                  try clear f_w1_w_0_5
                  try clear far_w1_w_0
                  try clear hB_w1
                  have far_w3_w_0 := far (show w.heap.size < w3.heap.size by omega)
                  go_wp2_with fail
                  refine Calls.mono (SU1.out _ (HB.out.trans (hB_w3.mono hzw))) ?_
                  rintro e w4 ⟨rfl, hb_w4⟩
                  have hz_w4 := hb_w4.size
                  try simp at hz_w4
                  obtain ⟨c_w4_w_0, f_w4_w_0⟩ := bk hb_w4 (w.heap.size) (by first | omega | (simp <;> omega))
                  have c_w4_w_0_0 := c_w4_w_0 0
                  conv at c_w4_w_0_0 => rhs; simp [go_sem, *]
                  have f_w4_w_0_0 := f_w4_w_0 0
                  conv at f_w4_w_0_0 => rhs; simp [go_sem, *]
                  have c_w4_w_0_1 := c_w4_w_0 1
                  conv at c_w4_w_0_1 => rhs; simp [go_sem, *]
                  have f_w4_w_0_1 := f_w4_w_0 1
                  conv at f_w4_w_0_1 => rhs; simp [go_sem, *]
                  have c_w4_w_0_2 := c_w4_w_0 2
                  conv at c_w4_w_0_2 => rhs; simp [go_sem, *]
                  have f_w4_w_0_2 := f_w4_w_0 2
                  conv at f_w4_w_0_2 => rhs; simp [go_sem, *]
                  have c_w4_w_0_3 := c_w4_w_0 3
                  conv at c_w4_w_0_3 => rhs; simp [go_sem, *]
                  have f_w4_w_0_3 := f_w4_w_0 3
                  conv at f_w4_w_0_3 => rhs; simp [go_sem, *]
                  have c_w4_w_0_4 := c_w4_w_0 4
                  conv at c_w4_w_0_4 => rhs; simp [go_sem, *]
                  have f_w4_w_0_4 := f_w4_w_0 4
                  conv at f_w4_w_0_4 => rhs; simp [go_sem, *]
                  have c_w4_w_0_5 := c_w4_w_0 5
                  conv at c_w4_w_0_5 => rhs; simp [go_sem, *]
                  have f_w4_w_0_5 := f_w4_w_0 5
                  conv at f_w4_w_0_5 => rhs; simp [go_sem, *]
                  have HH_w4 := Lib.hid hb_w4
                  have hB_w4 : Below wr.heap.size wr w4 := Below.trans (by (repeat (first | (with_reducible exact Below.refl _ _) | (with_reducible assumption) | (with_reducible refine Below.drew ?_) | (focus ((with_reducible refine Below.setCell ?_ ?_ _); rotate_left; (first | omega | (simp <;> omega)))) | (focus ((with_reducible refine Below.alloc ?_ ?_ _); rotate_left; (first | omega | (simp <;> omega)))) | exact Below.refl _ _ | assumption | refine Below.drew ?_ | refine Below.alloc ?_ (by first | omega | (simp <;> omega)) _ | refine Below.setCell ?_ (by first | omega | (simp <;> omega)) _))) (hb_w4.mono (by first | omega | (simp <;> omega)))
                  clear hb_w4 c_w4_w_0 f_w4_w_0
                  try clear c_w3_w_0_0
                  try clear f_w3_w_0_0
                  try clear c_w3_w_0_1
                  try clear f_w3_w_0_1
                  try clear c_w3_w_0_2
                  try clear f_w3_w_0_2
                  try clear c_w3_w_0_3
                  try clear f_w3_w_0_3
                  try clear c_w3_w_0_4
                  try clear f_w3_w_0_4
                  try clear c_w3_w_0_5
                  try clear f_w3_w_0_5
                  try clear far_w3_w_0
                  try clear hB_w3
                  have far_w4_w_0 := far (show w.heap.size < w4.heap.size by omega)
                  go_wp2_with fail
                  refine Calls.mono (VA1.out _ (HB.out.trans (hB_w4.mono hzw))) ?_
                  rintro e w5 ⟨rfl, hb_w5⟩
                  have hz_w5 := hb_w5.size
                  try simp at hz_w5
                  obtain ⟨c_w5_w_0, f_w5_w_0⟩ := bk hb_w5 (w.heap.size) (by first | omega | (simp <;> omega))
                  have c_w5_w_0_0 := c_w5_w_0 0
                  conv at c_w5_w_0_0 => rhs; simp [go_sem, *]
                  have f_w5_w_0_0 := f_w5_w_0 0
                  conv at f_w5_w_0_0 => rhs; simp [go_sem, *]
                  have c_w5_w_0_1 := c_w5_w_0 1
                  conv at c_w5_w_0_1 => rhs; simp [go_sem, *]
                  have f_w5_w_0_1 := f_w5_w_0 1
                  conv at f_w5_w_0_1 => rhs; simp [go_sem, *]
                  have c_w5_w_0_2 := c_w5_w_0 2
                  conv at c_w5_w_0_2 => rhs; simp [go_sem, *]
                  have f_w5_w_0_2 := f_w5_w_0 2
                  conv at f_w5_w_0_2 => rhs; simp [go_sem, *]
                  have c_w5_w_0_3 := c_w5_w_0 3
                  conv at c_w5_w_0_3 => rhs; simp [go_sem, *]
                  have f_w5_w_0_3 := f_w5_w_0 3
                  conv at f_w5_w_0_3 => rhs; simp [go_sem, *]
                  have c_w5_w_0_4 := c_w5_w_0 4
                  conv at c_w5_w_0_4 => rhs; simp [go_sem, *]
                  have f_w5_w_0_4 := f_w5_w_0 4
                  conv at f_w5_w_0_4 => rhs; simp [go_sem, *]
                  have c_w5_w_0_5 := c_w5_w_0 5
                  conv at c_w5_w_0_5 => rhs; simp [go_sem, *]
                  have f_w5_w_0_5 := f_w5_w_0 5
                  conv at f_w5_w_0_5 => rhs; simp [go_sem, *]
                  have HH_w5 := Lib.hid hb_w5
                  have hB_w5 : Below wr.heap.size wr w5 := Below.trans (by (repeat (first | (with_reducible exact Below.refl _ _) | (with_reducible assumption) | (with_reducible refine Below.drew ?_) | (focus ((with_reducible refine Below.setCell ?_ ?_ _); rotate_left; (first | omega | (simp <;> omega)))) | (focus ((with_reducible refine Below.alloc ?_ ?_ _); rotate_left; (first | omega | (simp <;> omega)))) | exact Below.refl _ _ | assumption | refine Below.drew ?_ | refine Below.alloc ?_ (by first | omega | (simp <;> omega)) _ | refine Below.setCell ?_ (by first | omega | (simp <;> omega)) _))) (hb_w5.mono (by first | omega | (simp <;> omega)))
                  clear hb_w5 c_w5_w_0 f_w5_w_0
                  try clear c_w4_w_0_0
                  try clear f_w4_w_0_0
                  try clear c_w4_w_0_1
                  try clear f_w4_w_0_1
                  try clear c_w4_w_0_2
                  try clear f_w4_w_0_2
                  try clear c_w4_w_0_3
                  try clear f_w4_w_0_3
                  try clear c_w4_w_0_4
                  try clear f_w4_w_0_4
                  try clear c_w4_w_0_5
                  try clear f_w4_w_0_5
                  try clear far_w4_w_0
                  try clear hB_w4
                  have far_w5_w_0 := far (show w.heap.size < w5.heap.size by omega)
                  go_wp2_with fail
                  go_roundw
                  case rel => exact ⟨j + 1, _, _, by go_num, rfl, rfl, by omega, by simp; omega, by simp; omega, fun X => by simpa using HN.out X, by simp; omega, ⟨by simp [go_sem, *], by simp [go_sem, *], by simp [go_sem, *], by simp [go_sem, *], by simp [go_sem, *], by simp [go_sem, *]⟩, by (have := HB.out.trans (hB_w5.mono hzw); (repeat (first | (with_reducible exact Below.refl _ _) | (with_reducible assumption) | (with_reducible refine Below.drew ?_) | (focus ((with_reducible refine Below.setCell ?_ ?_ _); rotate_left; (first | omega | (simp <;> omega)))) | (focus ((with_reducible refine Below.alloc ?_ ?_ _); rotate_left; (first | omega | (simp <;> omega)))) | exact Below.refl _ _ | assumption | refine Below.drew ?_ | refine Below.alloc ?_ (by first | omega | (simp <;> omega)) _ | refine Below.setCell ?_ (by first | omega | (simp <;> omega)) _)))⟩
                  case measure => simp [intOf]; omega
                · have hmod : ((j : Int).tmod 2) = 1 := by rw [Int.tmod_eq_emod_of_nonneg (by omega)]; omega
                  have hmod2 : ((j : Int) % 2) = 1 := by omega
                  have hd : dT j = [39, 100, 39] := by unfold dT; rw [if_neg hpar]
                  rw [hd] at HN
                  go_wp2_with (go_at_call 13; refine Calls.mono (SH1.out _) ?_; rintro e wq ⟨rfl, hwq⟩; obtain rfl := hwq.symm)
                  go_wp2_with fail
                  refine Calls.mono (RP1.out _ HB.out) ?_
                  rintro e w3 ⟨rfl, hb_w3⟩
                  have hz_w3 := hb_w3.size
                  try simp at hz_w3
                  obtain ⟨c_w3_w_0, f_w3_w_0⟩ := bk hb_w3 (w.heap.size) (by first | omega | (simp <;> omega))
                  have c_w3_w_0_0 := c_w3_w_0 0
                  conv at c_w3_w_0_0 => rhs; simp [go_sem, *]
                  have f_w3_w_0_0 := f_w3_w_0 0
                  conv at f_w3_w_0_0 => rhs; simp [go_sem, *]
                  have c_w3_w_0_1 := c_w3_w_0 1
                  conv at c_w3_w_0_1 => rhs; simp [go_sem, *]
                  have f_w3_w_0_1 := f_w3_w_0 1
                  conv at f_w3_w_0_1 => rhs; simp [go_sem, *]
                  have c_w3_w_0_2 := c_w3_w_0 2
                  conv at c_w3_w_0_2 => rhs; simp [go_sem, *]
                  have f_w3_w_0_2 := f_w3_w_0 2
                  conv at f_w3_w_0_2 => rhs; simp [go_sem, *]
                  have c_w3_w_0_3 := c_w3_w_0 3
                  conv at c_w3_w_0_3 => rhs; simp [go_sem, *]
                  have f_w3_w_0_3 := f_w3_w_0 3
                  conv at f_w3_w_0_3 => rhs; simp [go_sem, *]
                  have c_w3_w_0_4 := c_w3_w_0 4
                  conv at c_w3_w_0_4 => rhs; simp [go_sem, *]
                  have f_w3_w_0_4 := f_w3_w_0 4
                  conv at f_w3_w_0_4 => rhs; simp [go_sem, *]
                  have c_w3_w_0_5 := c_w3_w_0 5
                  conv at c_w3_w_0_5 => rhs; simp [go_sem, *]
                  have f_w3_w_0_5 := f_w3_w_0 5
                  conv at f_w3_w_0_5 => rhs; simp [go_sem, *]
                  have HH_w3 := Lib.hid hb_w3
                  have hB_w3 : Below wr.heap.size wr w3 := Below.trans (by (repeat (first | (with_reducible exact Below.refl _ _) | (with_reducible assumption) | (with_reducible refine Below.drew ?_) | (focus ((with_reducible refine Below.setCell ?_ ?_ _); rotate_left; (first | omega | (simp <;> omega)))) | (focus ((with_reducible refine Below.alloc ?_ ?_ _); rotate_left; (first | omega | (simp <;> omega)))) | exact Below.refl _ _ | assumption | refine Below.drew ?_ | refine Below.alloc ?_ (by first | omega | (simp <;> omega)) _ | refine Below.setCell ?_ (by first | omega | (simp <;> omega)) _))) (hb_w3.mono (by first | omega | (simp <;> omega)))
                  clear hb_w3 c_w3_w_0 f_w3_w_0
                  try clear c_w5_w_0_0
                  try clear f_w5_w_0_0
                  try clear c_w5_w_0_1
                  try clear f_w5_w_0_1
                  try clear c_w5_w_0_2
                  try clear f_w5_w_0_2
                  try clear c_w5_w_0_3
                  try clear f_w5_w_0_3
                  try clear c_w5_w_0_4
                  try clear f_w5_w_0_4
                  try clear c_w5_w_0_5
                  try clear f_w5_w_0_5
                  try clear far_w5_w_0
                  try clear hB_w5
                  have far_w3_w_0 := far (show w.heap.size < w3.heap.size by omega)
                  go_wp2_with fail
                  refine Calls.mono (SU1.out _ (HB.out.trans (hB_w3.mono hzw))) ?_
                  rintro e w4 ⟨rfl, hb_w4⟩
                  have hz_w4 := hb_w4.size
                  try simp at hz_w4
                  obtain ⟨c_w4_w_0, f_w4_w_0⟩ := bk hb_w4 (w.heap.size) (by first | omega | (simp <;> omega))
                  have c_w4_w_0_0 := c_w4_w_0 0
                  conv at c_w4_w_0_0 => rhs; simp [go_sem, *]
                  have f_w4_w_0_0 := f_w4_w_0 0
                  conv at f_w4_w_0_0 => rhs; simp [go_sem, *]
                  have c_w4_w_0_1 := c_w4_w_0 1
                  conv at c_w4_w_0_1 => rhs; simp [go_sem, *]
                  have f_w4_w_0_1 := f_w4_w_0 1
                  conv at f_w4_w_0_1 => rhs; simp [go_sem, *]
                  have c_w4_w_0_2 := c_w4_w_0 2
                  conv at c_w4_w_0_2 => rhs; simp [go_sem, *]
                  have f_w4_w_0_2 := f_w4_w_0 2
                  conv at f_w4_w_0_2 => rhs; simp [go_sem, *]
                  have c_w4_w_0_3 := c_w4_w_0 3
                  conv at c_w4_w_0_3 => rhs; simp [go_sem, *]
                  have f_w4_w_0_3 := f_w4_w_0 3
                  conv at f_w4_w_0_3 => rhs; simp [go_sem, *]
                  have c_w4_w_0_4 := c_w4_w_0 4
                  conv at c_w4_w_0_4 => rhs; simp [go_sem, *]
                  have f_w4_w_0_4 := f_w4_w_0 4
                  conv at f_w4_w_0_4 => rhs; simp [go_sem, *]
                  have c_w4_w_0_5 := c_w4_w_0 5
                  conv at c_w4_w_0_5 => rhs; simp [go_sem, *]
                  have f_w4_w_0_5 := f_w4_w_0 5
                  conv at f_w4_w_0_5 => rhs; simp [go_sem, *]
                  have HH_w4 := Lib.hid hb_w4
                  have hB_w4 : Below wr.heap.size wr w4 := Below.trans (by (repeat (first | (with_reducible exact Below.refl _ _) | (with_reducible assumption) | (with_reducible refine Below.drew ?_) | (focus ((with_reducible refine Below.setCell ?_ ?_ _); rotate_left; (first | omega | (simp <;> omega)))) | (focus ((with_reducible refine Below.alloc ?_ ?_ _); rotate_left; (first | omega | (simp <;> omega)))) | exact Below.refl _ _ | assumption | refine Below.drew ?_ | refine Below.alloc ?_ (by first | omega | (simp <;> omega)) _ | refine Below.setCell ?_ (by first | omega | (simp <;> omega)) _))) (hb_w4.mono (by first | omega | (simp <;> omega)))
                  clear hb_w4 c_w4_w_0 f_w4_w_0
                  try clear c_w3_w_0_0
                  try clear f_w3_w_0_0
                  try clear c_w3_w_0_1
                  try clear f_w3_w_0_1
                  try clear c_w3_w_0_2
                  try clear f_w3_w_0_2
                  try clear c_w3_w_0_3
                  try clear f_w3_w_0_3
                  try clear c_w3_w_0_4
                  try clear f_w3_w_0_4
                  try clear c_w3_w_0_5
                  try clear f_w3_w_0_5
                  try clear far_w3_w_0
                  try clear hB_w3
                  have far_w4_w_0 := far (show w.heap.size < w4.heap.size by omega)
                  go_wp2_with fail
                  refine Calls.mono (VA1.out _ (HB.out.trans (hB_w4.mono hzw))) ?_
                  rintro e w5 ⟨rfl, hb_w5⟩
                  have hz_w5 := hb_w5.size
                  try simp at hz_w5
                  obtain ⟨c_w5_w_0, f_w5_w_0⟩ := bk hb_w5 (w.heap.size) (by first | omega | (simp <;> omega))
                  have c_w5_w_0_0 := c_w5_w_0 0
                  conv at c_w5_w_0_0 => rhs; simp [go_sem, *]
                  have f_w5_w_0_0 := f_w5_w_0 0
                  conv at f_w5_w_0_0 => rhs; simp [go_sem, *]
                  have c_w5_w_0_1 := c_w5_w_0 1
                  conv at c_w5_w_0_1 => rhs; simp [go_sem, *]
                  have f_w5_w_0_1 := f_w5_w_0 1
                  conv at f_w5_w_0_1 => rhs; simp [go_sem, *]
                  have c_w5_w_0_2 := c_w5_w_0 2
                  conv at c_w5_w_0_2 => rhs; simp [go_sem, *]
                  have f_w5_w_0_2 := f_w5_w_0 2
                  conv at f_w5_w_0_2 => rhs; simp [go_sem, *]
                  have c_w5_w_0_3 := c_w5_w_0 3
                  conv at c_w5_w_0_3 => rhs; simp [go_sem, *]
                  have f_w5_w_0_3 := f_w5_w_0 3
                  conv at f_w5_w_0_3 => rhs; simp [go_sem, *]
                  have c_w5_w_0_4 := c_w5_w_0 4
                  conv at c_w5_w_0_4 => rhs; simp [go_sem, *]
                  have f_w5_w_0_4 := f_w5_w_0 4
                  conv at f_w5_w_0_4 => rhs; simp [go_sem, *]
                  have c_w5_w_0_5 := c_w5_w_0 5
                  conv at c_w5_w_0_5 => rhs; simp [go_sem, *]
                  have f_w5_w_0_5 := f_w5_w_0 5
                  conv at f_w5_w_0_5 => rhs; simp [go_sem, *]
                  have HH_w5 := Lib.hid hb_w5
                  have hB_w5 : Below wr.heap.size wr w5 := Below.trans (by (repeat (first | (with_reducible exact Below.refl _ _) | (with_reducible assumption) | (with_reducible refine Below.drew ?_) | (focus ((with_reducible refine Below.setCell ?_ ?_ _); rotate_left; (first | omega | (simp <;> omega)))) | (focus ((with_reducible refine Below.alloc ?_ ?_ _); rotate_left; (first | omega | (simp <;> omega)))) | exact Below.refl _ _ | assumption | refine Below.drew ?_ | refine Below.alloc ?_ (by first | omega | (simp <;> omega)) _ | refine Below.setCell ?_ (by first | omega | (simp <;> omega)) _))) (hb_w5.mono (by first | omega | (simp <;> omega)))
                  clear hb_w5 c_w5_w_0 f_w5_w_0
                  try clear c_w4_w_0_0
                  try clear f_w4_w_0_0
                  try clear c_w4_w_0_1
                  try clear f_w4_w_0_1
                  try clear c_w4_w_0_2
                  try clear f_w4_w_0_2
                  try clear c_w4_w_0_3
                  try clear f_w4_w_0_3
                  try clear c_w4_w_0_4
                  try clear f_w4_w_0_4
                  try clear c_w4_w_0_5
                  try clear f_w4_w_0_5
                  try clear far_w4_w_0
                  try clear hB_w4
                  have far_w5_w_0 := far (show w.heap.size < w5.heap.size by omega)
                  go_wp2_with fail
                  go_roundw
                  case rel => exact ⟨j + 1, _, _, by go_num, rfl, rfl, by omega, by simp; omega, by simp; omega, fun X => by simpa using HN.out X, by simp; omega, ⟨by simp [go_sem, *], by simp [go_sem, *], by simp [go_sem, *], by simp [go_sem, *], by simp [go_sem, *], by simp [go_sem, *]⟩, by (have := HB.out.trans (hB_w5.mono hzw); (repeat (first | (with_reducible exact Below.refl _ _) | (with_reducible assumption) | (with_reducible refine Below.drew ?_) | (focus ((with_reducible refine Below.setCell ?_ ?_ _); rotate_left; (first | omega | (simp <;> omega)))) | (focus ((with_reducible refine Below.alloc ?_ ?_ _); rotate_left; (first | omega | (simp <;> omega)))) | exact Below.refl _ _ | assumption | refine Below.drew ?_ | refine Below.alloc ?_ (by first | omega | (simp <;> omega)) _ | refine Below.setCell ?_ (by first | omega | (simp <;> omega)) _)))⟩
                  case measure => simp [intOf]; omega
              · obtain rfl : j = n := by omega
                have h0 := HAQ.out []
                rw [List.append_nil, SUN.out, List.append_nil] at h0
                have SU2 := Lib.hid (fun W hb => SU.out A Q (by omega) h0 W hb)
                clear h0
                go_wp2_with fail
                refine Calls.mono (AL.out _ HB.out) ?_
                rintro e w6 ⟨rfl, hb_w6⟩
                have hz_w6 := hb_w6.size
                try simp at hz_w6
                obtain ⟨c_w6_w_0, f_w6_w_0⟩ := bk hb_w6 (w.heap.size) (by first | omega | (simp <;> omega))
                have c_w6_w_0_0 := c_w6_w_0 0
                conv at c_w6_w_0_0 => rhs; simp [go_sem, *]
                have f_w6_w_0_0 := f_w6_w_0 0
                conv at f_w6_w_0_0 => rhs; simp [go_sem, *]
                have c_w6_w_0_1 := c_w6_w_0 1
                conv at c_w6_w_0_1 => rhs; simp [go_sem, *]
                have f_w6_w_0_1 := f_w6_w_0 1
                conv at f_w6_w_0_1 => rhs; simp [go_sem, *]
                have c_w6_w_0_2 := c_w6_w_0 2
                conv at c_w6_w_0_2 => rhs; simp [go_sem, *]
                have f_w6_w_0_2 := f_w6_w_0 2
                conv at f_w6_w_0_2 => rhs; simp [go_sem, *]
                have c_w6_w_0_3 := c_w6_w_0 3
                conv at c_w6_w_0_3 => rhs; simp [go_sem, *]
                have f_w6_w_0_3 := f_w6_w_0 3
                conv at f_w6_w_0_3 => rhs; simp [go_sem, *]
                have c_w6_w_0_4 := c_w6_w_0 4
                conv at c_w6_w_0_4 => rhs; simp [go_sem, *]
                have f_w6_w_0_4 := f_w6_w_0 4
                conv at f_w6_w_0_4 => rhs; simp [go_sem, *]
                have c_w6_w_0_5 := c_w6_w_0 5
                conv at c_w6_w_0_5 => rhs; simp [go_sem, *]
                have f_w6_w_0_5 := f_w6_w_0 5
                conv at f_w6_w_0_5 => rhs; simp [go_sem, *]
                have HH_w6 := Lib.hid hb_w6
                have hB_w6 : Below wr.heap.size wr w6 := Below.trans (by (repeat (first | (with_reducible exact Below.refl _ _) | (with_reducible assumption) | (with_reducible refine Below.drew ?_) | (focus ((with_reducible refine Below.setCell ?_ ?_ _); rotate_left; (first | omega | (simp <;> omega)))) | (focus ((with_reducible refine Below.alloc ?_ ?_ _); rotate_left; (first | omega | (simp <;> omega)))) | exact Below.refl _ _ | assumption | refine Below.drew ?_ | refine Below.alloc ?_ (by first | omega | (simp <;> omega)) _ | refine Below.setCell ?_ (by first | omega | (simp <;> omega)) _))) (hb_w6.mono (by first | omega | (simp <;> omega)))
                clear hb_w6 c_w6_w_0 f_w6_w_0
                try clear c_w5_w_0_0
                try clear f_w5_w_0_0
                try clear c_w5_w_0_1
                try clear f_w5_w_0_1
                try clear c_w5_w_0_2
                try clear f_w5_w_0_2
                try clear c_w5_w_0_3
                try clear f_w5_w_0_3
                try clear c_w5_w_0_4
                try clear f_w5_w_0_4
                try clear c_w5_w_0_5
                try clear f_w5_w_0_5
                try clear far_w5_w_0
                try clear hB_w5
                have far_w6_w_0 := far (show w.heap.size < w6.heap.size by omega)
                go_wp2_with fail
                refine Calls.mono (SU2.out _ (HB.out.trans (hB_w6.mono hzw))) ?_
                rintro e w7 ⟨rfl, hb_w7⟩
                have hz_w7 := hb_w7.size
                try simp at hz_w7
                obtain ⟨c_w7_w_0, f_w7_w_0⟩ := bk hb_w7 (w.heap.size) (by first | omega | (simp <;> omega))
                have c_w7_w_0_0 := c_w7_w_0 0
                conv at c_w7_w_0_0 => rhs; simp [go_sem, *]
                have f_w7_w_0_0 := f_w7_w_0 0
                conv at f_w7_w_0_0 => rhs; simp [go_sem, *]
                have c_w7_w_0_1 := c_w7_w_0 1
                conv at c_w7_w_0_1 => rhs; simp [go_sem, *]
                have f_w7_w_0_1 := f_w7_w_0 1
                conv at f_w7_w_0_1 => rhs; simp [go_sem, *]
                have c_w7_w_0_2 := c_w7_w_0 2
                conv at c_w7_w_0_2 => rhs; simp [go_sem, *]
                have f_w7_w_0_2 := f_w7_w_0 2
                conv at f_w7_w_0_2 => rhs; simp [go_sem, *]
                have c_w7_w_0_3 := c_w7_w_0 3
                conv at c_w7_w_0_3 => rhs; simp [go_sem, *]
                have f_w7_w_0_3 := f_w7_w_0 3
                conv at f_w7_w_0_3 => rhs; simp [go_sem, *]
                have c_w7_w_0_4 := c_w7_w_0 4
                conv at c_w7_w_0_4 => rhs; simp [go_sem, *]
                have f_w7_w_0_4 := f_w7_w_0 4
                conv at f_w7_w_0_4 => rhs; simp [go_sem, *]
                have c_w7_w_0_5 := c_w7_w_0 5
                conv at c_w7_w_0_5 => rhs; simp [go_sem, *]
                have f_w7_w_0_5 := f_w7_w_0 5
                conv at f_w7_w_0_5 => rhs; simp [go_sem, *]
                have HH_w7 := Lib.hid hb_w7
                have hB_w7 : Below wr.heap.size wr w7 := Below.trans (by (repeat (first | (with_reducible exact Below.refl _ _) | (with_reducible assumption) | (with_reducible refine Below.drew ?_) | (focus ((with_reducible refine Below.setCell ?_ ?_ _); rotate_left; (first | omega | (simp <;> omega)))) | (focus ((with_reducible refine Below.alloc ?_ ?_ _); rotate_left; (first | omega | (simp <;> omega)))) | exact Below.refl _ _ | assumption | refine Below.drew ?_ | refine Below.alloc ?_ (by first | omega | (simp <;> omega)) _ | refine Below.setCell ?_ (by first | omega | (simp <;> omega)) _))) (hb_w7.mono (by first | omega | (simp <;> omega)))
                clear hb_w7 c_w7_w_0 f_w7_w_0
                try clear c_w6_w_0_0
                try clear f_w6_w_0_0
                try clear c_w6_w_0_1
                try clear f_w6_w_0_1
                try clear c_w6_w_0_2
                try clear f_w6_w_0_2
                try clear c_w6_w_0_3
                try clear f_w6_w_0_3
                try clear c_w6_w_0_4
                try clear f_w6_w_0_4
                try clear c_w6_w_0_5
                try clear f_w6_w_0_5
                try clear far_w6_w_0
                try clear hB_w6
                have far_w7_w_0 := far (show w.heap.size < w7.heap.size by omega)
                go_wp2
                go_ret
                exact ⟨ret_bool (by simp), HB.out.trans (hB_w7.mono hzw)⟩
          · have hye : y.isEmpty = false := by simpa using hy0
            have hyb : (y == []) = false := by simpa using hy0
            have HJ := Lib.hid (fun i X => JR.out p y HP.out HY.out i X)
            obtain ⟨T, hT⟩ : ∃ T, 36 :: 40 :: 88 :: (p ++ 123 :: (y ++ [125])) = T := ⟨_, rfl⟩
            have hTl : T.length ≤ 80 := by rw [← hT]; simp only [List.length_cons, List.length_append, List.length_nil]; omega
            have HJT := Lib.hid (show ∀ i X, subV ⟨f0, f1, f2, f3, f4, f5⟩ (T ++ ((124 :: dT i) ++ 41 :: X)) = 100 :: subV ⟨f0, f1, f2, f3, f4, f5⟩ X from fun i X => by rw [← HJ.out i X, ← hT]; simp [keyT, hye])
            go_wp2
            try simp only [mk_S]
            clear hT HJ
            go_loopw [9, 10, 85] (fun av qv iv wr => ∃ (j : Nat) (A Q : List UInt8), iv = .int .i64 j ∧ av = .string (S A) ∧ qv = .string (S Q) ∧ j ≤ n ∧ A.length ≤ 700 * j ∧ Q.length ≤ 700 * j ∧ (∀ X, subV ⟨f0, f1, f2, f3, f4, f5⟩ (A ++ X) = Q ++ subV ⟨f0, f1, f2, f3, f4, f5⟩ X) ∧ w.heap.size < wr.heap.size ∧ (wr.cell? ⟨w.heap.size, 0, none⟩ = some (.string (S f0)) ∧ wr.cell? ⟨w.heap.size, 1, none⟩ = some (.string (S f1)) ∧ wr.cell? ⟨w.heap.size, 2, none⟩ = some (.string (S f2)) ∧ wr.cell? ⟨w.heap.size, 3, none⟩ = some (.string (S f3)) ∧ wr.cell? ⟨w.heap.size, 4, none⟩ = some (.string (S f4)) ∧ wr.cell? ⟨w.heap.size, 5, none⟩ = some (.string (S f5))) ∧ Below w.heap.size w wr) (fun _ _ iv _ => n - (intOf iv).toNat)
            case atStart => exact ⟨0, [], [], rfl, rfl, rfl, Nat.zero_le _, by simp, by simp, fun X => rfl, by simp; omega, ⟨by simp [go_sem, *], by simp [go_sem, *], by simp [go_sem, *], by simp [go_sem, *], by simp [go_sem, *], by simp [go_sem, *]⟩, by (repeat (first | (with_reducible exact Below.refl _ _) | (with_reducible assumption) | (with_reducible refine Below.drew ?_) | (focus ((with_reducible refine Below.setCell ?_ ?_ _); rotate_left; (first | omega | (simp <;> omega)))) | (focus ((with_reducible refine Below.alloc ?_ ?_ _); rotate_left; (first | omega | (simp <;> omega)))) | exact Below.refl _ _ | assumption | refine Below.drew ?_ | refine Below.alloc ?_ (by first | omega | (simp <;> omega)) _ | refine Below.setCell ?_ (by first | omega | (simp <;> omega)) _))⟩
            case round =>
              obtain ⟨j, A, Q, rfl, rfl, rfl, hj, hAl, hQl, hAQ, hzr, ⟨c0, c1, c2, c3, c4, c5⟩, hB⟩ := hrel
              have HAQ := Lib.hid hAQ
              have HB := Lib.hid hB
              have hzw := hB.size
              have far1 := far hzr
              clear hAQ
              by_cases hjn : j < n
              · have hjx : j < xs.length := by omega
                obtain ⟨bb, off, rfl, hbb, hcell⟩ := HR.out (by omega)
                have e1 := hcell j hjx
                rw [← hB.cell (p := ⟨bb, off + j, none⟩) hbb] at e1
                have hxk := HXL.out _ (List.getElem_mem hjx)
                obtain ⟨x, hx⟩ : ∃ x, xs[j] = x := ⟨_, rfl⟩
                rw [hx] at e1 hxk
                have SH1 := Lib.hid (fun W => SH.out x hxk W)
                obtain ⟨x2, hx2⟩ : ∃ x2, x.take 600 = x2 := ⟨_, rfl⟩
                have hx2l : x2.length ≤ 600 := by rw [← hx2, List.length_take]; omega
                rw [hx2] at SH1
                obtain ⟨r, hr⟩ : ∃ r, Lib.replaceAll x2 [36] [83] = r := ⟨_, rfl⟩
                have RP1 := Lib.hid (fun W hb => RP.out x2 r (by omega) hr W hb)
                have hra := replAll_one (c := 36) (d := 83) (by decide) x2
                rw [hr] at hra
                obtain ⟨hr36, hrl⟩ := hra
                have SU1 := Lib.hid (fun W hb => SU.out r r (by omega) (SN.out r hr36) W hb)
                have VA1 := Lib.hid (fun W hb => VA.out p y (by omega) (by omega) W hb)
                unfold pairV at VA1
                have hri : (r.length : Int) ≤ 600 := by omega
                have HN := Lib.hid (show ∀ X, subV ⟨f0, f1, f2, f3, f4, f5⟩ ((A ++ (r ++ (T ++ ((124 :: dT j) ++ [41])))) ++ X) = (Q ++ (r ++ [100])) ++ subV ⟨f0, f1, f2, f3, f4, f5⟩ X from fun X => by
                  have h1 := HAQ.out (r ++ (T ++ ((124 :: dT j) ++ 41 :: X)))
                  rw [SPR.out r _ hr36, HJT.out j X] at h1
                  rw [show (A ++ (r ++ (T ++ ((124 :: dT j) ++ [41])))) ++ X = A ++ (r ++ (T ++ ((124 :: dT j) ++ 41 :: X))) by simp, h1]
                  simp)
                have hAi : (A.length : Int) ≤ 700 * j := by omega
                have hQi : (Q.length : Int) ≤ 700 * j := by omega
                clear hcell hx hx2 hr hB
                by_cases hpar : j % 2 = 0
                · have hmod : ((j : Int).tmod 2) = 0 := by rw [Int.tmod_eq_emod_of_nonneg (by omega)]; omega
                  have hmod2 : ((j : Int) % 2) = 0 := by omega
                  have hd : dT j = [100] := by unfold dT; rw [if_pos hpar]
                  rw [hd] at HN
                  go_wp2_with (go_at_call 13; refine Calls.mono (SH1.out _) ?_; rintro e wq ⟨rfl, hwq⟩; obtain rfl := hwq.symm)
                  go_wp2_with fail
                  refine Calls.mono (RP1.out _ HB.out) ?_
                  rintro e w3 ⟨rfl, hb_w3⟩
                  have hz_w3 := hb_w3.size
                  try simp at hz_w3
                  obtain ⟨c_w3_w_0, f_w3_w_0⟩ := bk hb_w3 (w.heap.size) (by first | omega | (simp <;> omega))
                  have c_w3_w_0_0 := c_w3_w_0 0
                  conv at c_w3_w_0_0 => rhs; simp [go_sem, *]
                  have f_w3_w_0_0 := f_w3_w_0 0
                  conv at f_w3_w_0_0 => rhs; simp [go_sem, *]
                  have c_w3_w_0_1 := c_w3_w_0 1
                  conv at c_w3_w_0_1 => rhs; simp [go_sem, *]
                  have f_w3_w_0_1 := f_w3_w_0 1
                  conv at f_w3_w_0_1 => rhs; simp [go_sem, *]
                  have c_w3_w_0_2 := c_w3_w_0 2
                  conv at c_w3_w_0_2 => rhs; simp [go_sem, *]
                  have f_w3_w_0_2 := f_w3_w_0 2
                  conv at f_w3_w_0_2 => rhs; simp [go_sem, *]
                  have c_w3_w_0_3 := c_w3_w_0 3
                  conv at c_w3_w_0_3 => rhs; simp [go_sem, *]
                  have f_w3_w_0_3 := f_w3_w_0 3
                  conv at f_w3_w_0_3 => rhs; simp [go_sem, *]
                  have c_w3_w_0_4 := c_w3_w_0 4
                  conv at c_w3_w_0_4 => rhs; simp [go_sem, *]
                  have f_w3_w_0_4 := f_w3_w_0 4
                  conv at f_w3_w_0_4 => rhs; simp [go_sem, *]
                  have c_w3_w_0_5 := c_w3_w_0 5
                  conv at c_w3_w_0_5 => rhs; simp [go_sem, *]
                  have f_w3_w_0_5 := f_w3_w_0 5
                  conv at f_w3_w_0_5 => rhs; simp [go_sem, *]
                  have HH_w3 := Lib.hid hb_w3
                  have hB_w3 : Below wr.heap.size wr w3 := Below.trans (by (repeat (first | (with_reducible exact Below.refl _ _) | (with_reducible assumption) | (with_reducible refine Below.drew ?_) | (focus ((with_reducible refine Below.setCell ?_ ?_ _); rotate_left; (first | omega | (simp <;> omega)))) | (focus ((with_reducible refine Below.alloc ?_ ?_ _); rotate_left; (first | omega | (simp <;> omega)))) | exact Below.refl _ _ | assumption | refine Below.drew ?_ | refine Below.alloc ?_ (by first | omega | (simp <;> omega)) _ | refine Below.setCell ?_ (by first | omega | (simp <;> omega)) _))) (hb_w3.mono (by first | omega | (simp <;> omega)))
                  clear hb_w3 c_w3_w_0 f_w3_w_0
                  try clear c_w7_w_0_0
                  try clear f_w7_w_0_0
                  try clear c_w7_w_0_1
                  try clear f_w7_w_0_1
                  try clear c_w7_w_0_2
                  try clear f_w7_w_0_2
                  try clear c_w7_w_0_3
                  try clear f_w7_w_0_3
                  try clear c_w7_w_0_4
                  try clear f_w7_w_0_4
                  try clear c_w7_w_0_5
                  try clear f_w7_w_0_5
                  try clear far_w7_w_0
                  try clear hB_w7
                  have far_w3_w_0 := far (show w.heap.size < w3.heap.size by omega)
                  go_wp2_with fail
                  refine Calls.mono (SU1.out _ (HB.out.trans (hB_w3.mono hzw))) ?_
                  rintro e w4 ⟨rfl, hb_w4⟩
                  have hz_w4 := hb_w4.size
                  try simp at hz_w4
                  obtain ⟨c_w4_w_0, f_w4_w_0⟩ := bk hb_w4 (w.heap.size) (by first | omega | (simp <;> omega))
                  have c_w4_w_0_0 := c_w4_w_0 0
                  conv at c_w4_w_0_0 => rhs; simp [go_sem, *]
                  have f_w4_w_0_0 := f_w4_w_0 0
                  conv at f_w4_w_0_0 => rhs; simp [go_sem, *]
                  have c_w4_w_0_1 := c_w4_w_0 1
                  conv at c_w4_w_0_1 => rhs; simp [go_sem, *]
                  have f_w4_w_0_1 := f_w4_w_0 1
                  conv at f_w4_w_0_1 => rhs; simp [go_sem, *]
                  have c_w4_w_0_2 := c_w4_w_0 2
                  conv at c_w4_w_0_2 => rhs; simp [go_sem, *]
                  have f_w4_w_0_2 := f_w4_w_0 2
                  conv at f_w4_w_0_2 => rhs; simp [go_sem, *]
                  have c_w4_w_0_3 := c_w4_w_0 3
                  conv at c_w4_w_0_3 => rhs; simp [go_sem, *]
                  have f_w4_w_0_3 := f_w4_w_0 3
                  conv at f_w4_w_0_3 => rhs; simp [go_sem, *]
                  have c_w4_w_0_4 := c_w4_w_0 4
                  conv at c_w4_w_0_4 => rhs; simp [go_sem, *]
                  have f_w4_w_0_4 := f_w4_w_0 4
                  conv at f_w4_w_0_4 => rhs; simp [go_sem, *]
                  have c_w4_w_0_5 := c_w4_w_0 5
                  conv at c_w4_w_0_5 => rhs; simp [go_sem, *]
                  have f_w4_w_0_5 := f_w4_w_0 5
                  conv at f_w4_w_0_5 => rhs; simp [go_sem, *]
                  have HH_w4 := Lib.hid hb_w4
                  have hB_w4 : Below wr.heap.size wr w4 := Below.trans (by (repeat (first | (with_reducible exact Below.refl _ _) | (with_reducible assumption) | (with_reducible refine Below.drew ?_) | (focus ((with_reducible refine Below.setCell ?_ ?_ _); rotate_left; (first | omega | (simp <;> omega)))) | (focus ((with_reducible refine Below.alloc ?_ ?_ _); rotate_left; (first | omega | (simp <;> omega)))) | exact Below.refl _ _ | assumption | refine Below.drew ?_ | refine Below.alloc ?_ (by first | omega | (simp <;> omega)) _ | refine Below.setCell ?_ (by first | omega | (simp <;> omega)) _))) (hb_w4.mono (by first | omega | (simp <;> omega)))
                  clear hb_w4 c_w4_w_0 f_w4_w_0
                  try clear c_w3_w_0_0
                  try clear f_w3_w_0_0
                  try clear c_w3_w_0_1
                  try clear f_w3_w_0_1
                  try clear c_w3_w_0_2
                  try clear f_w3_w_0_2
                  try clear c_w3_w_0_3
                  try clear f_w3_w_0_3
                  try clear c_w3_w_0_4
                  try clear f_w3_w_0_4
                  try clear c_w3_w_0_5
                  try clear f_w3_w_0_5
                  try clear far_w3_w_0
                  try clear hB_w3
                  have far_w4_w_0 := far (show w.heap.size < w4.heap.size by omega)
                  go_wp2_with fail
                  refine Calls.mono (VA1.out _ (HB.out.trans (hB_w4.mono hzw))) ?_
                  rintro e w5 ⟨rfl, hb_w5⟩
                  have hz_w5 := hb_w5.size
                  try simp at hz_w5
                  obtain ⟨c_w5_w_0, f_w5_w_0⟩ := bk hb_w5 (w.heap.size) (by first | omega | (simp <;> omega))
                  have c_w5_w_0_0 := c_w5_w_0 0
                  conv at c_w5_w_0_0 => rhs; simp [go_sem, *]
                  have f_w5_w_0_0 := f_w5_w_0 0
                  conv at f_w5_w_0_0 => rhs; simp [go_sem, *]
                  have c_w5_w_0_1 := c_w5_w_0 1
                  conv at c_w5_w_0_1 => rhs; simp [go_sem, *]
                  have f_w5_w_0_1 := f_w5_w_0 1
                  conv at f_w5_w_0_1 => rhs; simp [go_sem, *]
                  have c_w5_w_0_2 := c_w5_w_0 2
                  conv at c_w5_w_0_2 => rhs; simp [go_sem, *]
                  have f_w5_w_0_2 := f_w5_w_0 2
                  conv at f_w5_w_0_2 => rhs; simp [go_sem, *]
                  have c_w5_w_0_3 := c_w5_w_0 3
                  conv at c_w5_w_0_3 => rhs; simp [go_sem, *]
                  have f_w5_w_0_3 := f_w5_w_0 3
                  conv at f_w5_w_0_3 => rhs; simp [go_sem, *]
                  have c_w5_w_0_4 := c_w5_w_0 4
                  conv at c_w5_w_0_4 => rhs; simp [go_sem, *]
                  have f_w5_w_0_4 := f_w5_w_0 4
                  conv at f_w5_w_0_4 => rhs; simp [go_sem, *]
                  have c_w5_w_0_5 := c_w5_w_0 5
                  conv at c_w5_w_0_5 => rhs; simp [go_sem, *]
                  have f_w5_w_0_5 := f_w5_w_0 5
                  conv at f_w5_w_0_5 => rhs; simp [go_sem, *]
                  have HH_w5 := Lib.hid hb_w5
                  have hB_w5 : Below wr.heap.size wr w5 := Below.trans (by (repeat (first | (with_reducible exact Below.refl _ _) | (with_reducible assumption) | (with_reducible refine Below.drew ?_) | (focus ((with_reducible refine Below.setCell ?_ ?_ _); rotate_left; (first | omega | (simp <;> omega)))) | (focus ((with_reducible refine Below.alloc ?_ ?_ _); rotate_left; (first | omega | (simp <;> omega)))) | exact Below.refl _ _ | assumption | refine Below.drew ?_ | refine Below.alloc ?_ (by first | omega | (simp <;> omega)) _ | refine Below.setCell ?_ (by first | omega | (simp <;> omega)) _))) (hb_w5.mono (by first | omega | (simp <;> omega)))
                  clear hb_w5 c_w5_w_0 f_w5_w_0
                  try clear c_w4_w_0_0
                  try clear f_w4_w_0_0
                  try clear c_w4_w_0_1
                  try clear f_w4_w_0_1
                  try clear c_w4_w_0_2
                  try clear f_w4_w_0_2
                  try clear c_w4_w_0_3
                  try clear f_w4_w_0_3
                  try clear c_w4_w_0_4
                  try clear f_w4_w_0_4
                  try clear c_w4_w_0_5
                  try clear f_w4_w_0_5
                  try clear far_w4_w_0
                  try clear hB_w4
                  have far_w5_w_0 := far (show w.heap.size < w5.heap.size by omega)
                  go_wp2_with fail
                  go_roundw
                  case rel => exact ⟨j + 1, _, _, by go_num, rfl, rfl, by omega, by simp; omega, by simp; omega, fun X => by simpa using HN.out X, by simp; omega, ⟨by simp [go_sem, *], by simp [go_sem, *], by simp [go_sem, *], by simp [go_sem, *], by simp [go_sem, *], by simp [go_sem, *]⟩, by (have := HB.out.trans (hB_w5.mono hzw); (repeat (first | (with_reducible exact Below.refl _ _) | (with_reducible assumption) | (with_reducible refine Below.drew ?_) | (focus ((with_reducible refine Below.setCell ?_ ?_ _); rotate_left; (first | omega | (simp <;> omega)))) | (focus ((with_reducible refine Below.alloc ?_ ?_ _); rotate_left; (first | omega | (simp <;> omega)))) | exact Below.refl _ _ | assumption | refine Below.drew ?_ | refine Below.alloc ?_ (by first | omega | (simp <;> omega)) _ | refine Below.setCell ?_ (by first | omega | (simp <;> omega)) _)))⟩
                  case measure => simp [intOf]; omega
                · have hmod : ((j : Int).tmod 2) = 1 := by rw [Int.tmod_eq_emod_of_nonneg (by omega)]; omega
                  have hmod2 : ((j : Int) % 2) = 1 := by omega
                  have hd : dT j = [39, 100, 39] := by unfold dT; rw [if_neg hpar]
                  rw [hd] at HN
                  go_wp2_with (go_at_call 13; refine Calls.mono (SH1.out _) ?_; rintro e wq ⟨rfl, hwq⟩; obtain rfl := hwq.symm)
                  go_wp2_with fail
                  refine Calls.mono (RP1.out _ HB.out) ?_
                  rintro e w3 ⟨rfl, hb_w3⟩
                  have hz_w3 := hb_w3.size
                  try simp at hz_w3
                  obtain ⟨c_w3_w_0, f_w3_w_0⟩ := bk hb_w3 (w.heap.size) (by first | omega | (simp <;> omega))
                  have c_w3_w_0_0 := c_w3_w_0 0
                  conv at c_w3_w_0_0 => rhs; simp [go_sem, *]
                  have f_w3_w_0_0 := f_w3_w_0 0
                  conv at f_w3_w_0_0 => rhs; simp [go_sem, *]
                  have c_w3_w_0_1 := c_w3_w_0 1
                  conv at c_w3_w_0_1 => rhs; simp [go_sem, *]
                  have f_w3_w_0_1 := f_w3_w_0 1
                  conv at f_w3_w_0_1 => rhs; simp [go_sem, *]
                  have c_w3_w_0_2 := c_w3_w_0 2
                  conv at c_w3_w_0_2 => rhs; simp [go_sem, *]
                  have f_w3_w_0_2 := f_w3_w_0 2
                  conv at f_w3_w_0_2 => rhs; simp [go_sem, *]
                  have c_w3_w_0_3 := c_w3_w_0 3
                  conv at c_w3_w_0_3 => rhs; simp [go_sem, *]
                  have f_w3_w_0_3 := f_w3_w_0 3
                  conv at f_w3_w_0_3 => rhs; simp [go_sem, *]
                  have c_w3_w_0_4 := c_w3_w_0 4
                  conv at c_w3_w_0_4 => rhs; simp [go_sem, *]
                  have f_w3_w_0_4 := f_w3_w_0 4
                  conv at f_w3_w_0_4 => rhs; simp [go_sem, *]
                  have c_w3_w_0_5 := c_w3_w_0 5
                  conv at c_w3_w_0_5 => rhs; simp [go_sem, *]
                  have f_w3_w_0_5 := f_w3_w_0 5
                  conv at f_w3_w_0_5 => rhs; simp [go_sem, *]
                  have HH_w3 := Lib.hid hb_w3
                  have hB_w3 : Below wr.heap.size wr w3 := Below.trans (by (repeat (first | (with_reducible exact Below.refl _ _) | (with_reducible assumption) | (with_reducible refine Below.drew ?_) | (focus ((with_reducible refine Below.setCell ?_ ?_ _); rotate_left; (first | omega | (simp <;> omega)))) | (focus ((with_reducible refine Below.alloc ?_ ?_ _); rotate_left; (first | omega | (simp <;> omega)))) | exact Below.refl _ _ | assumption | refine Below.drew ?_ | refine Below.alloc ?_ (by first | omega | (simp <;> omega)) _ | refine Below.setCell ?_ (by first | omega | (simp <;> omega)) _))) (hb_w3.mono (by first | omega | (simp <;> omega)))
                  clear hb_w3 c_w3_w_0 f_w3_w_0
                  try clear c_w5_w_0_0
                  try clear f_w5_w_0_0
                  try clear c_w5_w_0_1
                  try clear f_w5_w_0_1
                  try clear c_w5_w_0_2
                  try clear f_w5_w_0_2
                  try clear c_w5_w_0_3
                  try clear f_w5_w_0_3
                  try clear c_w5_w_0_4
                  try clear f_w5_w_0_4
                  try clear c_w5_w_0_5
                  try clear f_w5_w_0_5
                  try clear far_w5_w_0
                  try clear hB_w5
                  have far_w3_w_0 := far (show w.heap.size < w3.heap.size by omega)
                  go_wp2_with fail
                  refine Calls.mono (SU1.out _ (HB.out.trans (hB_w3.mono hzw))) ?_
                  rintro e w4 ⟨rfl, hb_w4⟩
                  have hz_w4 := hb_w4.size
                  try simp at hz_w4
                  obtain ⟨c_w4_w_0, f_w4_w_0⟩ := bk hb_w4 (w.heap.size) (by first | omega | (simp <;> omega))
                  have c_w4_w_0_0 := c_w4_w_0 0
                  conv at c_w4_w_0_0 => rhs; simp [go_sem, *]
                  have f_w4_w_0_0 := f_w4_w_0 0
                  conv at f_w4_w_0_0 => rhs; simp [go_sem, *]
                  have c_w4_w_0_1 := c_w4_w_0 1
                  conv at c_w4_w_0_1 => rhs; simp [go_sem, *]
                  have f_w4_w_0_1 := f_w4_w_0 1
                  conv at f_w4_w_0_1 => rhs; simp [go_sem, *]
                  have c_w4_w_0_2 := c_w4_w_0 2
                  conv at c_w4_w_0_2 => rhs; simp [go_sem, *]
                  have f_w4_w_0_2 := f_w4_w_0 2
                  conv at f_w4_w_0_2 => rhs; simp [go_sem, *]
                  have c_w4_w_0_3 := c_w4_w_0 3
                  conv at c_w4_w_0_3 => rhs; simp [go_sem, *]
                  have f_w4_w_0_3 := f_w4_w_0 3
                  conv at f_w4_w_0_3 => rhs; simp [go_sem, *]
                  have c_w4_w_0_4 := c_w4_w_0 4
                  conv at c_w4_w_0_4 => rhs; simp [go_sem, *]
                  have f_w4_w_0_4 := f_w4_w_0 4
                  conv at f_w4_w_0_4 => rhs; simp [go_sem, *]
                  have c_w4_w_0_5 := c_w4_w_0 5
                  conv at c_w4_w_0_5 => rhs; simp [go_sem, *]
                  have f_w4_w_0_5 := f_w4_w_0 5
                  conv at f_w4_w_0_5 => rhs; simp [go_sem, *]
                  have HH_w4 := Lib.hid hb_w4
                  have hB_w4 : Below wr.heap.size wr w4 := Below.trans (by (repeat (first | (with_reducible exact Below.refl _ _) | (with_reducible assumption) | (with_reducible refine Below.drew ?_) | (focus ((with_reducible refine Below.setCell ?_ ?_ _); rotate_left; (first | omega | (simp <;> omega)))) | (focus ((with_reducible refine Below.alloc ?_ ?_ _); rotate_left; (first | omega | (simp <;> omega)))) | exact Below.refl _ _ | assumption | refine Below.drew ?_ | refine Below.alloc ?_ (by first | omega | (simp <;> omega)) _ | refine Below.setCell ?_ (by first | omega | (simp <;> omega)) _))) (hb_w4.mono (by first | omega | (simp <;> omega)))
                  clear hb_w4 c_w4_w_0 f_w4_w_0
                  try clear c_w3_w_0_0
                  try clear f_w3_w_0_0
                  try clear c_w3_w_0_1
                  try clear f_w3_w_0_1
                  try clear c_w3_w_0_2
                  try clear f_w3_w_0_2
                  try clear c_w3_w_0_3
                  try clear f_w3_w_0_3
                  try clear c_w3_w_0_4
                  try clear f_w3_w_0_4
                  try clear c_w3_w_0_5
                  try clear f_w3_w_0_5
                  try clear far_w3_w_0
                  try clear hB_w3
                  have far_w4_w_0 := far (show w.heap.size < w4.heap.size by omega)
                  go_wp2_with fail
                  refine Calls.mono (VA1.out _ (HB.out.trans (hB_w4.mono hzw))) ?_
                  rintro e w5 ⟨rfl, hb_w5⟩
                  have hz_w5 := hb_w5.size
                  try simp at hz_w5
                  obtain ⟨c_w5_w_0, f_w5_w_0⟩ := bk hb_w5 (w.heap.size) (by first | omega | (simp <;> omega))
                  have c_w5_w_0_0 := c_w5_w_0 0
                  conv at c_w5_w_0_0 => rhs; simp [go_sem, *]
                  have f_w5_w_0_0 := f_w5_w_0 0
                  conv at f_w5_w_0_0 => rhs; simp [go_sem, *]
                  have c_w5_w_0_1 := c_w5_w_0 1
                  conv at c_w5_w_0_1 => rhs; simp [go_sem, *]
                  have f_w5_w_0_1 := f_w5_w_0 1
                  conv at f_w5_w_0_1 => rhs; simp [go_sem, *]
                  have c_w5_w_0_2 := c_w5_w_0 2
                  conv at c_w5_w_0_2 => rhs; simp [go_sem, *]
                  have f_w5_w_0_2 := f_w5_w_0 2
                  conv at f_w5_w_0_2 => rhs; simp [go_sem, *]
                  have c_w5_w_0_3 := c_w5_w_0 3
                  conv at c_w5_w_0_3 => rhs; simp [go_sem, *]
                  have f_w5_w_0_3 := f_w5_w_0 3
                  conv at f_w5_w_0_3 => rhs; simp [go_sem, *]
                  have c_w5_w_0_4 := c_w5_w_0 4
                  conv at c_w5_w_0_4 => rhs; simp [go_sem, *]
                  have f_w5_w_0_4 := f_w5_w_0 4
                  conv at f_w5_w_0_4 => rhs; simp [go_sem, *]
                  have c_w5_w_0_5 := c_w5_w_0 5
                  conv at c_w5_w_0_5 => rhs; simp [go_sem, *]
                  have f_w5_w_0_5 := f_w5_w_0 5
                  conv at f_w5_w_0_5 => rhs; simp [go_sem, *]
                  have HH_w5 := Lib.hid hb_w5
                  have hB_w5 : Below wr.heap.size wr w5 := Below.trans (by (repeat (first | (with_reducible exact Below.refl _ _) | (with_reducible assumption) | (with_reducible refine Below.drew ?_) | (focus ((with_reducible refine Below.setCell ?_ ?_ _); rotate_left; (first | omega | (simp <;> omega)))) | (focus ((with_reducible refine Below.alloc ?_ ?_ _); rotate_left; (first | omega | (simp <;> omega)))) | exact Below.refl _ _ | assumption | refine Below.drew ?_ | refine Below.alloc ?_ (by first | omega | (simp <;> omega)) _ | refine Below.setCell ?_ (by first | omega | (simp <;> omega)) _))) (hb_w5.mono (by first | omega | (simp <;> omega)))
                  clear hb_w5 c_w5_w_0 f_w5_w_0
                  try clear c_w4_w_0_0
                  try clear f_w4_w_0_0
                  try clear c_w4_w_0_1
                  try clear f_w4_w_0_1
                  try clear c_w4_w_0_2
                  try clear f_w4_w_0_2
                  try clear c_w4_w_0_3
                  try clear f_w4_w_0_3
                  try clear c_w4_w_0_4
                  try clear f_w4_w_0_4
                  try clear c_w4_w_0_5
                  try clear f_w4_w_0_5
                  try clear far_w4_w_0
                  try clear hB_w4
                  have far_w5_w_0 := far (show w.heap.size < w5.heap.size by omega)
                  go_wp2_with fail
                  go_roundw
                  case rel => exact ⟨j + 1, _, _, by go_num, rfl, rfl, by omega, by simp; omega, by simp; omega, fun X => by simpa using HN.out X, by simp; omega, ⟨by simp [go_sem, *], by simp [go_sem, *], by simp [go_sem, *], by simp [go_sem, *], by simp [go_sem, *], by simp [go_sem, *]⟩, by (have := HB.out.trans (hB_w5.mono hzw); (repeat (first | (with_reducible exact Below.refl _ _) | (with_reducible assumption) | (with_reducible refine Below.drew ?_) | (focus ((with_reducible refine Below.setCell ?_ ?_ _); rotate_left; (first | omega | (simp <;> omega)))) | (focus ((with_reducible refine Below.alloc ?_ ?_ _); rotate_left; (first | omega | (simp <;> omega)))) | exact Below.refl _ _ | assumption | refine Below.drew ?_ | refine Below.alloc ?_ (by first | omega | (simp <;> omega)) _ | refine Below.setCell ?_ (by first | omega | (simp <;> omega)) _)))⟩
                  case measure => simp [intOf]; omega
              · obtain rfl : j = n := by omega
                have h0 := HAQ.out []
                rw [List.append_nil, SUN.out, List.append_nil] at h0
                have SU2 := Lib.hid (fun W hb => SU.out A Q (by omega) h0 W hb)
                clear h0
                go_wp2_with fail
                refine Calls.mono (AL.out _ HB.out) ?_
                rintro e w6 ⟨rfl, hb_w6⟩
                have hz_w6 := hb_w6.size
                try simp at hz_w6
                obtain ⟨c_w6_w_0, f_w6_w_0⟩ := bk hb_w6 (w.heap.size) (by first | omega | (simp <;> omega))
                have c_w6_w_0_0 := c_w6_w_0 0
                conv at c_w6_w_0_0 => rhs; simp [go_sem, *]
                have f_w6_w_0_0 := f_w6_w_0 0
                conv at f_w6_w_0_0 => rhs; simp [go_sem, *]
                have c_w6_w_0_1 := c_w6_w_0 1
                conv at c_w6_w_0_1 => rhs; simp [go_sem, *]
                have f_w6_w_0_1 := f_w6_w_0 1
                conv at f_w6_w_0_1 => rhs; simp [go_sem, *]
                have c_w6_w_0_2 := c_w6_w_0 2
                conv at c_w6_w_0_2 => rhs; simp [go_sem, *]
                have f_w6_w_0_2 := f_w6_w_0 2
                conv at f_w6_w_0_2 => rhs; simp [go_sem, *]
                have c_w6_w_0_3 := c_w6_w_0 3
                conv at c_w6_w_0_3 => rhs; simp [go_sem, *]
                have f_w6_w_0_3 := f_w6_w_0 3
                conv at f_w6_w_0_3 => rhs; simp [go_sem, *]
                have c_w6_w_0_4 := c_w6_w_0 4
                conv at c_w6_w_0_4 => rhs; simp [go_sem, *]
                have f_w6_w_0_4 := f_w6_w_0 4
                conv at f_w6_w_0_4 => rhs; simp [go_sem, *]
                have c_w6_w_0_5 := c_w6_w_0 5
                conv at c_w6_w_0_5 => rhs; simp [go_sem, *]
                have f_w6_w_0_5 := f_w6_w_0 5
                conv at f_w6_w_0_5 => rhs; simp [go_sem, *]
                have HH_w6 := Lib.hid hb_w6
                have hB_w6 : Below wr.heap.size wr w6 := Below.trans (by (repeat (first | (with_reducible exact Below.refl _ _) | (with_reducible assumption) | (with_reducible refine Below.drew ?_) | (focus ((with_reducible refine Below.setCell ?_ ?_ _); rotate_left; (first | omega | (simp <;> omega)))) | (focus ((with_reducible refine Below.alloc ?_ ?_ _); rotate_left; (first | omega | (simp <;> omega)))) | exact Below.refl _ _ | assumption | refine Below.drew ?_ | refine Below.alloc ?_ (by first | omega | (simp <;> omega)) _ | refine Below.setCell ?_ (by first | omega | (simp <;> omega)) _))) (hb_w6.mono (by first | omega | (simp <;> omega)))
                clear hb_w6 c_w6_w_0 f_w6_w_0
                try clear c_w5_w_0_0
                try clear f_w5_w_0_0
                try clear c_w5_w_0_1
                try clear f_w5_w_0_1
                try clear c_w5_w_0_2
                try clear f_w5_w_0_2
                try clear c_w5_w_0_3
                try clear f_w5_w_0_3
                try clear c_w5_w_0_4
                try clear f_w5_w_0_4
                try clear c_w5_w_0_5
                try clear f_w5_w_0_5
                try clear far_w5_w_0
                try clear hB_w5
                have far_w6_w_0 := far (show w.heap.size < w6.heap.size by omega)
                go_wp2_with fail
                refine Calls.mono (SU2.out _ (HB.out.trans (hB_w6.mono hzw))) ?_
                rintro e w7 ⟨rfl, hb_w7⟩
                have hz_w7 := hb_w7.size
                try simp at hz_w7
                obtain ⟨c_w7_w_0, f_w7_w_0⟩ := bk hb_w7 (w.heap.size) (by first | omega | (simp <;> omega))
                have c_w7_w_0_0 := c_w7_w_0 0
                conv at c_w7_w_0_0 => rhs; simp [go_sem, *]
                have f_w7_w_0_0 := f_w7_w_0 0
                conv at f_w7_w_0_0 => rhs; simp [go_sem, *]
                have c_w7_w_0_1 := c_w7_w_0 1
                conv at c_w7_w_0_1 => rhs; simp [go_sem, *]
                have f_w7_w_0_1 := f_w7_w_0 1
                conv at f_w7_w_0_1 => rhs; simp [go_sem, *]
                have c_w7_w_0_2 := c_w7_w_0 2
                conv at c_w7_w_0_2 => rhs; simp [go_sem, *]
                have f_w7_w_0_2 := f_w7_w_0 2
                conv at f_w7_w_0_2 => rhs; simp [go_sem, *]
                have c_w7_w_0_3 := c_w7_w_0 3
                conv at c_w7_w_0_3 => rhs; simp [go_sem, *]
                have f_w7_w_0_3 := f_w7_w_0 3
                conv at f_w7_w_0_3 => rhs; simp [go_sem, *]
                have c_w7_w_0_4 := c_w7_w_0 4
                conv at c_w7_w_0_4 => rhs; simp [go_sem, *]
                have f_w7_w_0_4 := f_w7_w_0 4
                conv at f_w7_w_0_4 => rhs; simp [go_sem, *]
                have c_w7_w_0_5 := c_w7_w_0 5
                conv at c_w7_w_0_5 => rhs; simp [go_sem, *]
                have f_w7_w_0_5 := f_w7_w_0 5
                conv at f_w7_w_0_5 => rhs; simp [go_sem, *]
                have HH_w7 := Lib.hid hb_w7
                have hB_w7 : Below wr.heap.size wr w7 := Below.trans (by (repeat (first | (with_reducible exact Below.refl _ _) | (with_reducible assumption) | (with_reducible refine Below.drew ?_) | (focus ((with_reducible refine Below.setCell ?_ ?_ _); rotate_left; (first | omega | (simp <;> omega)))) | (focus ((with_reducible refine Below.alloc ?_ ?_ _); rotate_left; (first | omega | (simp <;> omega)))) | exact Below.refl _ _ | assumption | refine Below.drew ?_ | refine Below.alloc ?_ (by first | omega | (simp <;> omega)) _ | refine Below.setCell ?_ (by first | omega | (simp <;> omega)) _))) (hb_w7.mono (by first | omega | (simp <;> omega)))
                clear hb_w7 c_w7_w_0 f_w7_w_0
                try clear c_w6_w_0_0
                try clear f_w6_w_0_0
                try clear c_w6_w_0_1
                try clear f_w6_w_0_1
                try clear c_w6_w_0_2
                try clear f_w6_w_0_2
                try clear c_w6_w_0_3
                try clear f_w6_w_0_3
                try clear c_w6_w_0_4
                try clear f_w6_w_0_4
                try clear c_w6_w_0_5
                try clear f_w6_w_0_5
                try clear far_w6_w_0
                try clear hB_w6
                have far_w7_w_0 := far (show w.heap.size < w7.heap.size by omega)
                go_wp2
                go_ret
                exact ⟨ret_bool (by simp), HB.out.trans (hB_w7.mono hzw)⟩
end Go.Proofs.YtenflcaalckdfaaDoor
