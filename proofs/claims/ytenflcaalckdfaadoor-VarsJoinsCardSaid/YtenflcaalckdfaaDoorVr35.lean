/- The laws' own functions: few, short, alive. The law VarsTwice: its walk. -/
import Derived.Test.YtenflcaalckdfaaDoorVr33
import Derived.Test.YtenflcaalckdfaaDoorVr34
namespace Go.Proofs.YtenflcaalckdfaaDoor
open Go Go.RowKit Go.Sort Go.Shelf
set_option linter.unusedVariables false
set_option linter.unusedSimpArgs false

theorem take_le' (l : List UInt8) (K : Nat) (hl : l.length ≤ 9223372036854775807) : ∃ m : Nat, min (l.length : Int) K = m ∧ m ≤ l.length ∧ l.take K = l.take m := ⟨min l.length K, by omega, by omega, by
  by_cases h : K ≤ l.length
  · rw [Nat.min_eq_right h]
  · rw [Nat.min_eq_left (by omega), List.take_length, List.take_of_length_le (by omega)]⟩
theorem few1_c (l : List UInt8) (hl : l.length ≤ 9223372036854775807) (w : World) : Calls Tryd.prog 14 #[.string (S l)] w fun e w' => e = .returned (.string (S (l.take 300))) ∧ w' = w := by
  obtain ⟨m, hm, hml, e⟩ := take_le' l 300 hl
  rw [e]
  clear e
  simp only [Int.cast_ofNat_Int] at hm
  go_enter Tryd.func14, Tryd.ntmps14
  go_wp2
  go_ret
  exact ⟨by simp, rfl⟩
theorem vars_short (l : List UInt8) (hl : l.length ≤ 9223372036854775807) (w : World) : Calls Tryd.prog 13 #[.string (S l)] w fun e w' => e = .returned (.string (S (l.take 600))) ∧ w' = w := by
  obtain ⟨m, hm, hml, e⟩ := take_le' l 600 hl
  rw [e]
  clear e
  simp only [Int.cast_ofNat_Int] at hm
  go_enter Tryd.func13, Tryd.ntmps13
  go_wp2
  go_ret
  exact ⟨by simp, rfl⟩
/-- What a request of little text says. -/
def En.cut (e : En) : En := ⟨e.host.take 300, e.ref.take 300, e.agent.take 300, e.cookie.take 300, e.lang.take 300, e.query.take 300⟩
theorem En.cut_few (e : En) : e.cut.few := ⟨by simp [En.cut]; omega, by simp [En.cut]; omega, by simp [En.cut]; omega, by simp [En.cut]; omega, by simp [En.cut]; omega, by simp [En.cut]; omega⟩
def En.lens (e : En) : Prop := e.host.length ≤ 9223372036854775807 ∧ e.ref.length ≤ 9223372036854775807 ∧ e.agent.length ≤ 9223372036854775807 ∧ e.cookie.length ≤ 9223372036854775807 ∧ e.lang.length ≤ 9223372036854775807 ∧ e.query.length ≤ 9223372036854775807
set_option maxHeartbeats 3200000 in
set_option maxRecDepth 100000 in
theorem vars_few (e : En) (he : e.lens) (w : World) : Calls Tryd.prog 6 #[e.v] w fun x w' => x = .returned e.cut.v ∧ Below w.heap.size w w' := by
  obtain ⟨h1, h2, h3, h4, h5, h6⟩ := he
  have C1 := Lib.hid (fun W => few1_c e.host h1 W)
  have C2 := Lib.hid (fun W => few1_c e.ref h2 W)
  have C3 := Lib.hid (fun W => few1_c e.agent h3 W)
  have C4 := Lib.hid (fun W => few1_c e.cookie h4 W)
  have C5 := Lib.hid (fun W => few1_c e.lang h5 W)
  have C6 := Lib.hid (fun W => few1_c e.query h6 W)
  obtain ⟨a1, a2, a3, a4, a5, a6⟩ := e
  simp only [En.v, En.cut] at *
  obtain ⟨b1, hb1⟩ : ∃ b, a1.take 300 = b := ⟨_, rfl⟩
  obtain ⟨b2, hb2⟩ : ∃ b, a2.take 300 = b := ⟨_, rfl⟩
  obtain ⟨b3, hb3⟩ : ∃ b, a3.take 300 = b := ⟨_, rfl⟩
  obtain ⟨b4, hb4⟩ : ∃ b, a4.take 300 = b := ⟨_, rfl⟩
  obtain ⟨b5, hb5⟩ : ∃ b, a5.take 300 = b := ⟨_, rfl⟩
  obtain ⟨b6, hb6⟩ : ∃ b, a6.take 300 = b := ⟨_, rfl⟩
  rw [hb1] at C1 ⊢
  rw [hb2] at C2 ⊢
  rw [hb3] at C3 ⊢
  rw [hb4] at C4 ⊢
  rw [hb5] at C5 ⊢
  rw [hb6] at C6 ⊢
  clear h1 h2 h3 h4 h5 h6 hb1 hb2 hb3 hb4 hb5 hb6
  go_enter Tryd.func6, Tryd.ntmps6
  go_wp2_with fail
  refine wp_region_later_tail (w.heap.size + 2) 25 (by kernel_rfl) (by kernel_rfl) ?_
  simp only [List.take_succ_cons, List.take_zero, List.drop_succ_cons, List.drop_zero]
  have l_w2_w_0 := @Later.at (w.heap.size + 2) (w.heap.size) (by omega)
  have l_w2_w_1 := @Later.at (w.heap.size + 2) (w.heap.size + 1) (by omega)
  repeat (go_big_quiet_step ((go_at_call 14; first | (with_reducible refine later_same (C1.out _)) | (with_reducible refine later_same (C2.out _)) | (with_reducible refine later_same (C3.out _)) | (with_reducible refine later_same (C4.out _)) | (with_reducible refine later_same (C5.out _)) | (with_reducible refine later_same (C6.out _)))))
  refine wpQuiet_nil ?_
  rintro w2 ⟨⟨_, hb_w2⟩, rfl⟩
  clear l_w2_w_0 l_w2_w_1
  try simp only [] at hb_w2 ⊢
  have hz_w2 := hb_w2.size
  try simp at hz_w2
  have c_w2_w_0 := fun o => hb_w2.cell (p := ⟨w.heap.size, o, none⟩) (by first | omega | (simp <;> omega))
  have f_w2_w_0 := fun o => hb_w2.frozen (p := ⟨w.heap.size, o, none⟩) (by first | omega | (simp <;> omega))
  have c_w2_w_0_0 := c_w2_w_0 0
  conv at c_w2_w_0_0 => rhs; simp [go_sem, *]
  have f_w2_w_0_0 := f_w2_w_0 0
  conv at f_w2_w_0_0 => rhs; simp [go_sem, *]
  have c_w2_w_0_1 := c_w2_w_0 1
  conv at c_w2_w_0_1 => rhs; simp [go_sem, *]
  have f_w2_w_0_1 := f_w2_w_0 1
  conv at f_w2_w_0_1 => rhs; simp [go_sem, *]
  have c_w2_w_0_2 := c_w2_w_0 2
  conv at c_w2_w_0_2 => rhs; simp [go_sem, *]
  have f_w2_w_0_2 := f_w2_w_0 2
  conv at f_w2_w_0_2 => rhs; simp [go_sem, *]
  have c_w2_w_0_3 := c_w2_w_0 3
  conv at c_w2_w_0_3 => rhs; simp [go_sem, *]
  have f_w2_w_0_3 := f_w2_w_0 3
  conv at f_w2_w_0_3 => rhs; simp [go_sem, *]
  have c_w2_w_0_4 := c_w2_w_0 4
  conv at c_w2_w_0_4 => rhs; simp [go_sem, *]
  have f_w2_w_0_4 := f_w2_w_0 4
  conv at f_w2_w_0_4 => rhs; simp [go_sem, *]
  have c_w2_w_0_5 := c_w2_w_0 5
  conv at c_w2_w_0_5 => rhs; simp [go_sem, *]
  have f_w2_w_0_5 := f_w2_w_0 5
  conv at f_w2_w_0_5 => rhs; simp [go_sem, *]
  have c_w2_w_1 := fun o => hb_w2.cell (p := ⟨w.heap.size + 1, o, none⟩) (by first | omega | (simp <;> omega))
  have f_w2_w_1 := fun o => hb_w2.frozen (p := ⟨w.heap.size + 1, o, none⟩) (by first | omega | (simp <;> omega))
  have c_w2_w_1_0 := c_w2_w_1 0
  conv at c_w2_w_1_0 => rhs; simp [go_sem, *]
  have f_w2_w_1_0 := f_w2_w_1 0
  conv at f_w2_w_1_0 => rhs; simp [go_sem, *]
  have c_w2_w_1_1 := c_w2_w_1 1
  conv at c_w2_w_1_1 => rhs; simp [go_sem, *]
  have f_w2_w_1_1 := f_w2_w_1 1
  conv at f_w2_w_1_1 => rhs; simp [go_sem, *]
  have c_w2_w_1_2 := c_w2_w_1 2
  conv at c_w2_w_1_2 => rhs; simp [go_sem, *]
  have f_w2_w_1_2 := f_w2_w_1 2
  conv at f_w2_w_1_2 => rhs; simp [go_sem, *]
  have c_w2_w_1_3 := c_w2_w_1 3
  conv at c_w2_w_1_3 => rhs; simp [go_sem, *]
  have f_w2_w_1_3 := f_w2_w_1 3
  conv at f_w2_w_1_3 => rhs; simp [go_sem, *]
  have c_w2_w_1_4 := c_w2_w_1 4
  conv at c_w2_w_1_4 => rhs; simp [go_sem, *]
  have f_w2_w_1_4 := f_w2_w_1 4
  conv at f_w2_w_1_4 => rhs; simp [go_sem, *]
  have c_w2_w_1_5 := c_w2_w_1 5
  conv at c_w2_w_1_5 => rhs; simp [go_sem, *]
  have f_w2_w_1_5 := f_w2_w_1 5
  conv at f_w2_w_1_5 => rhs; simp [go_sem, *]
  have HH_w2 := Lib.hid hb_w2
  have hB_w2 : Below w.heap.size w w2 := Below.trans (by (repeat (first | (with_reducible exact Below.refl _ _) | (with_reducible assumption) | (with_reducible refine Below.drew ?_) | (focus ((with_reducible refine Below.setCell ?_ ?_ _); rotate_left; (first | omega | (simp <;> omega)))) | (focus ((with_reducible refine Below.alloc ?_ ?_ _); rotate_left; (first | omega | (simp <;> omega)))) | exact Below.refl _ _ | assumption | refine Below.drew ?_ | refine Below.alloc ?_ (by first | omega | (simp <;> omega)) _ | refine Below.setCell ?_ (by first | omega | (simp <;> omega)) _))) (hb_w2.mono (by first | omega | (simp <;> omega)))
  clear hb_w2 c_w2_w_0 f_w2_w_0 c_w2_w_1 f_w2_w_1
  have far_w2_w_0 := far (show w.heap.size < w2.heap.size by omega)
  have far_w2_w_1 := far (show w.heap.size + 1 < w2.heap.size by omega)
  go_wp2
  exact bodyPost_ret (v := .agg #[.string (S b1), .string (S b2), .string (S b3), .string (S b4), .string (S b5), .string (S b6)]) (by simp [results, Tryd.results6, go_sem, *]) rfl ⟨rfl, by (repeat (first | (with_reducible exact Below.refl _ _) | (with_reducible assumption) | (with_reducible refine Below.drew ?_) | (focus ((with_reducible refine Below.setCell ?_ ?_ _); rotate_left; (first | omega | (simp <;> omega)))) | (focus ((with_reducible refine Below.alloc ?_ ?_ _); rotate_left; (first | omega | (simp <;> omega)))) | exact Below.refl _ _ | assumption | refine Below.drew ?_ | refine Below.alloc ?_ (by first | omega | (simp <;> omega)) _ | refine Below.setCell ?_ (by first | omega | (simp <;> omega)) _))⟩
def queryOf (q : List UInt8) : En := ⟨[], [], [], [], [], q⟩
theorem alive_sub : subV (queryOf [120, 61, 49]) [97, 36, 40, 81, 85, 69, 82, 89, 95, 83, 84, 82, 73, 78, 71, 123, 120, 125, 124, 39, 110, 111, 110, 101, 39, 41, 98] = [97, 49, 98] := by decide +kernel
theorem vars_alive (w : World) (hM : ML w) : Calls Tryd.prog 8 #[] w fun e w' => e = .returned (.bool true) ∧ Below w.heap.size w w' := by
  have C := Lib.hid (fun W h => varsSub (queryOf [120, 61, 49]) (by unfold En.few queryOf; simp) [97, 36, 40, 81, 85, 69, 82, 89, 95, 83, 84, 82, 73, 78, 71, 123, 120, 125, 124, 39, 110, 111, 110, 101, 39, 41, 98] (by decide) W h)
  rw [alive_sub] at C
  unfold queryOf En.v at C
  simp only at C
  go_enter Tryd.func8, Tryd.ntmps8
  go_wp2_with (go_at_call 7; refine Calls.mono (C.out _ hM) ?_; rintro x w1 ⟨rfl, hb1⟩; have HB1 := Lib.hid hb1; clear hb1)
  go_ret
  exact ⟨ret_bool (by simp), HB1.out⟩
end Go.Proofs.YtenflcaalckdfaaDoor
namespace Go.Proofs.YtenflcaalckdfaaDoor
open Go Go.RowKit Go.Sort Go.Shelf
set_option linter.unusedVariables false
set_option linter.unusedSimpArgs false

def hostT : List UInt8 := [36, 40, 72, 84, 84, 80, 95, 67, 79, 79, 75, 73, 69, 41]
theorem valV_cookie (e : En) : valV e cookieN [97] = findV (cookiesL e.cookie) [97] := by
  unfold valV
  rw [if_neg (by decide), if_neg (by decide), if_neg (by decide), if_pos rfl]
  rfl
theorem valV_host (e : En) : valV e hostN [] = someV e.host := by unfold valV; rw [if_pos rfl]; rfl
theorem host_ref (e : En) : refV e [36, 40, 72, 84, 84, 80, 95, 72, 79, 83, 84, 41] = ((if e.host.isEmpty then [] else e.host), 12) ∧ subV e [36, 40, 72, 84, 84, 80, 95, 72, 79, 83, 84, 41] = e.host := by
  have h : refP [36, 40, 72, 84, 84, 80, 95, 72, 79, 83, 84, 41] = some (hostN, [], [], [41]) := by decide +kernel
  have h2 : ([36, 40, 72, 84, 84, 80, 95, 72, 79, 83, 84, 41] : List UInt8) = [36, 40, 72, 84, 84, 80, 95, 72, 79, 83, 84] ++ 41 :: [] := rfl
  refine ⟨?_, ?_⟩
  · rw [refV_text h h2, valV_host]
    unfold someV
    cases e.host <;> rfl
  · rw [subV_text h h2, valV_host, subV_nil, List.append_nil]
    unfold someV
    cases e.host <;> rfl
theorem twice_sub (e : En) (p : List UInt8) (hp : (39 : UInt8) ∉ p) :
    subV e ([36, 40, 72, 84, 84, 80, 95, 67, 79, 79, 75, 73, 69, 123, 97, 125, 124, 39] ++ (p ++ [39, 41, 36, 40, 72, 84, 84, 80, 95, 72, 79, 83, 84, 41])) = (if (valV e cookieN [97]).2 then (valV e cookieN [97]).1 else p) ++ e.host := by
  have hO : otherP ((124 :: 39 :: (p ++ [39])) ++ 41 :: [36, 40, 72, 84, 84, 80, 95, 72, 79, 83, 84, 41]) = some (p, 41 :: [36, 40, 72, 84, 84, 80, 95, 72, 79, 83, 84, 41]) := by
    have := otherP_quo (X := 41 :: [36, 40, 72, 84, 84, 80, 95, 72, 79, 83, 84, 41]) hp
    simpa using this
  have h := refP_text (name := cookieN) (k := [97]) (O := 124 :: 39 :: (p ++ [39])) (o := p) (X := [36, 40, 72, 84, 84, 80, 95, 72, 79, 83, 84, 41]) (by decide) (by decide) (by decide) hO (by intro c hc; simp at hc; subst hc; decide)
  have hs : ([36, 40, 72, 84, 84, 80, 95, 67, 79, 79, 75, 73, 69, 123, 97, 125, 124, 39] ++ (p ++ [39, 41, 36, 40, 72, 84, 84, 80, 95, 72, 79, 83, 84, 41]) : List UInt8) = (36 :: 40 :: (cookieN ++ (keyT [97] ++ ((124 :: 39 :: (p ++ [39])) ++ 41 :: [36, 40, 72, 84, 84, 80, 95, 72, 79, 83, 84, 41])))) := by
    simp [cookieN, keyT]
  have hs2 : (36 :: 40 :: (cookieN ++ (keyT [97] ++ ((124 :: 39 :: (p ++ [39])) ++ 41 :: [36, 40, 72, 84, 84, 80, 95, 72, 79, 83, 84, 41]))) : List UInt8) = (36 :: 40 :: (cookieN ++ (keyT [97] ++ (124 :: 39 :: (p ++ [39]))))) ++ 41 :: [36, 40, 72, 84, 84, 80, 95, 72, 79, 83, 84, 41] := by simp
  rw [hs, subV_text h hs2, (host_ref e).2]

set_option maxHeartbeats 3200000 in
set_option maxRecDepth 100000 in
theorem varsTwice_any (a0 a1 a2 a3 a4 a5 o : ByteArray) (w : World) (h0 : a0.size ≤ maxLen) (h1 : a1.size ≤ maxLen) (h2 : a2.size ≤ maxLen) (h3 : a3.size ≤ maxLen) (h4 : a4.size ≤ maxLen) (h5 : a5.size ≤ maxLen) (ho : o.size ≤ maxLen) (_hL : True) (hM : ∃ m, w.cell? ⟨0, 0, none⟩ = some (.int .i64 m)) :
    Calls Tryd.prog 4 #[.agg #[.string a0, .string a1, .string a2, .string a3, .string a4, .string a5], .string o] w fun x w' => x = .returned (.bool true) ∧ Below w.heap.size w w' := by
  obtain ⟨l0, rfl⟩ := S_of a0
  obtain ⟨l1, rfl⟩ := S_of a1
  obtain ⟨l2, rfl⟩ := S_of a2
  obtain ⟨l3, rfl⟩ := S_of a3
  obtain ⟨l4, rfl⟩ := S_of a4
  obtain ⟨l5, rfl⟩ := S_of a5
  obtain ⟨s, rfl⟩ := S_of o
  simp only [S_size] at h0 h1 h2 h3 h4 h5 ho
  have hm : maxLen = 9223372036854775807 := rfl
  rw [hm] at h0 h1 h2 h3 h4 h5 ho
  clear hm
  have FE := Lib.hid (fun W => vars_few ⟨l0, l1, l2, l3, l4, l5⟩ ⟨h0, h1, h2, h3, h4, h5⟩ W)
  have hcf := En.cut_few ⟨l0, l1, l2, l3, l4, l5⟩
  obtain ⟨e, he⟩ : ∃ e, En.cut ⟨l0, l1, l2, l3, l4, l5⟩ = e := ⟨_, rfl⟩
  rw [he] at FE hcf
  obtain ⟨f0, f1, f2, f3, f4, f5⟩ := e
  have VA := Lib.hid (fun W (hb : Below w.heap.size w W) => varsValue ⟨f0, f1, f2, f3, f4, f5⟩ hcf cookieN [97] (by decide) (by decide) W (ML.later hM (GG.of_below hb)))
  obtain ⟨⟨v, is⟩, hv⟩ : ∃ x, valV ⟨f0, f1, f2, f3, f4, f5⟩ cookieN [97] = x := ⟨_, rfl⟩
  have hvl : v.length ≤ 300 := by
    have h := valV_len hcf cookieN [97]
    rw [hv] at h
    exact h
  have hcf2 : En.few ⟨hostT, f1, f2, f3, f4, f5⟩ := ⟨(by show hostT.length ≤ 300; decide), hcf.2⟩
  have hv2 : valV ⟨hostT, f1, f2, f3, f4, f5⟩ cookieN [97] = (v, is) := by rw [valV_cookie] at hv ⊢; exact hv
  have SU0 : (∀ (p : List UInt8) (hp : (39 : UInt8) ∉ p) (hpl : p.length ≤ 31) (W : World) (hb : Below w.heap.size w W), Calls Tryd.prog 7 #[En.v ⟨hostT, f1, f2, f3, f4, f5⟩, .string (S ([36, 40, 72, 84, 84, 80, 95, 67, 79, 79, 75, 73, 69, 123, 97, 125, 124, 39] ++ (p ++ [39, 41, 36, 40, 72, 84, 84, 80, 95, 72, 79, 83, 84, 41])))] W fun x w' => x = .returned (.string (S ((if is then v else p) ++ hostT))) ∧ Below W.heap.size W w') := (by
    intro p hp hpl W hb
    have h := varsSub ⟨hostT, f1, f2, f3, f4, f5⟩ hcf2 ([36, 40, 72, 84, 84, 80, 95, 67, 79, 79, 75, 73, 69, 123, 97, 125, 124, 39] ++ (p ++ [39, 41, 36, 40, 72, 84, 84, 80, 95, 72, 79, 83, 84, 41])) (by simp only [List.length_append, List.length_cons, List.length_nil]; omega) W (ML.later hM (GG.of_below hb))
    rw [twice_sub _ p hp, hv2] at h
    exact h)
  have RF0 : (∀ (W : World) (hb : Below w.heap.size w W), Calls Tryd.prog 10 #[En.v ⟨hostT, f1, f2, f3, f4, f5⟩, .string (S [36, 40, 72, 84, 84, 80, 95, 72, 79, 83, 84, 41])] W fun x w' => x = .returned (.tuple #[.string (S hostT), .int .i64 12]) ∧ Below W.heap.size W w') := (by
    intro W hb
    have h := varsRef ⟨hostT, f1, f2, f3, f4, f5⟩ hcf2 [36, 40, 72, 84, 84, 80, 95, 72, 79, 83, 84, 41] (by simp) W (ML.later hM (GG.of_below hb))
    rw [(host_ref _).1] at h
    exact h)
  have SU := Lib.hid SU0
  have RF := Lib.hid RF0
  clear SU0 RF0
  have AL := Lib.hid (fun W (hb : Below w.heap.size w W) => vars_alive W (ML.later hM (GG.of_below hb)))
  rw [hv] at VA
  unfold hostT En.v at *
  unfold pairV at VA
  simp only at FE VA SU RF
  obtain ⟨m, hm, hml, hm30⟩ : ∃ m : Nat, min (s.length : Int) 30 = m ∧ m ≤ s.length ∧ m ≤ 30 := ⟨min s.length 30, by omega, by omega, by omega⟩
  clear he hv hv2 hcf hcf2 hM h0 h1 h2 h3 h4 h5
  go_enter Tryd.func4, Tryd.ntmps4
  go_wp2_with fail
  refine Calls.mono (FE.out _) ?_
  rintro e w1 ⟨rfl, hb_w1⟩
  have hz_w1 := hb_w1.size
  try simp at hz_w1
  obtain ⟨c_w1_w_0, f_w1_w_0⟩ := bk hb_w1 (w.heap.size) (by first | omega | (simp <;> omega))
  have c_w1_w_0_0 := c_w1_w_0 0
  conv at c_w1_w_0_0 => rhs; simp [go_sem, *]
  have f_w1_w_0_0 := f_w1_w_0 0
  conv at f_w1_w_0_0 => rhs; simp [go_sem, *]
  have c_w1_w_0_1 := c_w1_w_0 1
  conv at c_w1_w_0_1 => rhs; simp [go_sem, *]
  have f_w1_w_0_1 := f_w1_w_0 1
  conv at f_w1_w_0_1 => rhs; simp [go_sem, *]
  have c_w1_w_0_2 := c_w1_w_0 2
  conv at c_w1_w_0_2 => rhs; simp [go_sem, *]
  have f_w1_w_0_2 := f_w1_w_0 2
  conv at f_w1_w_0_2 => rhs; simp [go_sem, *]
  have c_w1_w_0_3 := c_w1_w_0 3
  conv at c_w1_w_0_3 => rhs; simp [go_sem, *]
  have f_w1_w_0_3 := f_w1_w_0 3
  conv at f_w1_w_0_3 => rhs; simp [go_sem, *]
  have c_w1_w_0_4 := c_w1_w_0 4
  conv at c_w1_w_0_4 => rhs; simp [go_sem, *]
  have f_w1_w_0_4 := f_w1_w_0 4
  conv at f_w1_w_0_4 => rhs; simp [go_sem, *]
  have c_w1_w_0_5 := c_w1_w_0 5
  conv at c_w1_w_0_5 => rhs; simp [go_sem, *]
  have f_w1_w_0_5 := f_w1_w_0 5
  conv at f_w1_w_0_5 => rhs; simp [go_sem, *]
  have HH_w1 := Lib.hid hb_w1
  have hB_w1 : Below w.heap.size w w1 := Below.trans (by (repeat (first | (with_reducible exact Below.refl _ _) | (with_reducible assumption) | (with_reducible refine Below.drew ?_) | (focus ((with_reducible refine Below.setCell ?_ ?_ _); rotate_left; (first | omega | (simp <;> omega)))) | (focus ((with_reducible refine Below.alloc ?_ ?_ _); rotate_left; (first | omega | (simp <;> omega)))) | exact Below.refl _ _ | assumption | refine Below.drew ?_ | refine Below.alloc ?_ (by first | omega | (simp <;> omega)) _ | refine Below.setCell ?_ (by first | omega | (simp <;> omega)) _))) (hb_w1.mono (by first | omega | (simp <;> omega)))
  clear hb_w1 c_w1_w_0 f_w1_w_0
  have far_w1_w_0 := far (show w.heap.size < w1.heap.size by omega)
  go_wp2_with fail
  refine Calls.mono (VA.out _ (by (repeat (first | (with_reducible exact Below.refl _ _) | (with_reducible assumption) | (with_reducible refine Below.drew ?_) | (focus ((with_reducible refine Below.setCell ?_ ?_ _); rotate_left; (first | omega | (simp <;> omega)))) | (focus ((with_reducible refine Below.alloc ?_ ?_ _); rotate_left; (first | omega | (simp <;> omega)))) | exact Below.refl _ _ | assumption | refine Below.drew ?_ | refine Below.alloc ?_ (by first | omega | (simp <;> omega)) _ | refine Below.setCell ?_ (by first | omega | (simp <;> omega)) _)))) ?_
  rintro e w2 ⟨rfl, hb_w2⟩
  have hz_w2 := hb_w2.size
  try simp at hz_w2
  obtain ⟨c_w2_w_0, f_w2_w_0⟩ := bk hb_w2 (w.heap.size) (by first | omega | (simp <;> omega))
  have c_w2_w_0_0 := c_w2_w_0 0
  conv at c_w2_w_0_0 => rhs; simp [go_sem, *]
  have f_w2_w_0_0 := f_w2_w_0 0
  conv at f_w2_w_0_0 => rhs; simp [go_sem, *]
  have c_w2_w_0_1 := c_w2_w_0 1
  conv at c_w2_w_0_1 => rhs; simp [go_sem, *]
  have f_w2_w_0_1 := f_w2_w_0 1
  conv at f_w2_w_0_1 => rhs; simp [go_sem, *]
  have c_w2_w_0_2 := c_w2_w_0 2
  conv at c_w2_w_0_2 => rhs; simp [go_sem, *]
  have f_w2_w_0_2 := f_w2_w_0 2
  conv at f_w2_w_0_2 => rhs; simp [go_sem, *]
  have c_w2_w_0_3 := c_w2_w_0 3
  conv at c_w2_w_0_3 => rhs; simp [go_sem, *]
  have f_w2_w_0_3 := f_w2_w_0 3
  conv at f_w2_w_0_3 => rhs; simp [go_sem, *]
  have c_w2_w_0_4 := c_w2_w_0 4
  conv at c_w2_w_0_4 => rhs; simp [go_sem, *]
  have f_w2_w_0_4 := f_w2_w_0 4
  conv at f_w2_w_0_4 => rhs; simp [go_sem, *]
  have c_w2_w_0_5 := c_w2_w_0 5
  conv at c_w2_w_0_5 => rhs; simp [go_sem, *]
  have f_w2_w_0_5 := f_w2_w_0 5
  conv at f_w2_w_0_5 => rhs; simp [go_sem, *]
  have HH_w2 := Lib.hid hb_w2
  have hB_w2 : Below w.heap.size w w2 := Below.trans (by (repeat (first | (with_reducible exact Below.refl _ _) | (with_reducible assumption) | (with_reducible refine Below.drew ?_) | (focus ((with_reducible refine Below.setCell ?_ ?_ _); rotate_left; (first | omega | (simp <;> omega)))) | (focus ((with_reducible refine Below.alloc ?_ ?_ _); rotate_left; (first | omega | (simp <;> omega)))) | exact Below.refl _ _ | assumption | refine Below.drew ?_ | refine Below.alloc ?_ (by first | omega | (simp <;> omega)) _ | refine Below.setCell ?_ (by first | omega | (simp <;> omega)) _))) (hb_w2.mono (by first | omega | (simp <;> omega)))
  clear hb_w2 c_w2_w_0 f_w2_w_0
  try clear c_w1_w_0_0
  try clear f_w1_w_0_0
  try clear c_w1_w_0_1
  try clear f_w1_w_0_1
  try clear c_w1_w_0_2
  try clear f_w1_w_0_2
  try clear c_w1_w_0_3
  try clear f_w1_w_0_3
  try clear c_w1_w_0_4
  try clear f_w1_w_0_4
  try clear c_w1_w_0_5
  try clear f_w1_w_0_5
  try clear far_w1_w_0
  try clear hB_w1
  have far_w2_w_0 := far (show w.heap.size < w2.heap.size by omega)
  go_wp2
  try simp only [mk_S]
  go_loopw [7, 23] (fun pv iv wr => ∃ (k : Nat) (p : List UInt8), iv = .int .i64 k ∧ pv = .string (S p) ∧ k ≤ m ∧ (39 : UInt8) ∉ p ∧ p.length ≤ 1 + k ∧ wr = w2) (fun _ iv _ => m - (intOf iv).toNat)
  case atStart => exact ⟨0, [100], rfl, rfl, Nat.zero_le _, by decide, by simp, rfl⟩
  case round =>
    obtain ⟨k, p, rfl, rfl, hk, hp, hpl, rfl⟩ := hrel
    have HP := Lib.hid hp
    clear hp
    by_cases hkm : k < m
    · have hks : k < s.length := by omega
      have hbat := bAt_eq hks
      obtain ⟨c, hc⟩ : ∃ c, s[k] = c := ⟨_, rfl⟩
      rw [hc] at hbat
      have hsl : (s.take (k + 1)).drop k = [c] := by rw [List.drop_take, show k + 1 - k = 1 by omega, List.drop_eq_getElem_cons hks, hc]; rfl
      by_cases h39 : c = 39
      · have hb39 : ((c.toNat : Int) == 39) = true := by rw [h39]; rfl
        have hb39' : ((c.toNat : Int) != 39) = false := by rw [h39]; rfl
        rw [← hbat] at hb39 hb39'
        clear h39 hc hbat
        go_wp2_with fail
        go_roundw
        case rel => exact ⟨k + 1, p, by go_num, rfl, by omega, HP.out, by omega, by first | rfl | trivial⟩
        case measure => simp [intOf]; omega
      · have hb39 : ((c.toNat : Int) == 39) = false := by simp only [beq_eq_false_iff_ne, ne_eq]; exact fun e => h39 (UInt8.toNat.inj (by rw [show (39 : UInt8).toNat = 39 from rfl]; omega))
        have hb39' : ((c.toNat : Int) != 39) = true := by unfold bne; rw [hb39]; rfl
        have HPC := Lib.hid (show (39 : UInt8) ∉ p ++ [c] from fun hm => (List.mem_append.1 hm).elim HP.out (fun h => h39 (List.mem_singleton.1 h).symm))
        rw [← hbat] at hb39 hb39'
        clear h39 hc hbat
        go_wp2_with fail
        go_roundw
        case rel => exact ⟨k + 1, p ++ [c], by go_num, rfl, by omega, HPC.out, by simp; omega, by first | rfl | trivial⟩
        case measure => simp [intOf]; omega
    · obtain rfl : k = m := by omega
      have SU1 := Lib.hid (fun W hb => SU.out p HP.out (by omega) W hb)
      simp only [List.cons_append, List.nil_append] at SU1
      cases is with
      | true =>
        simp only [if_true] at SU1
        go_wp2_with fail
        refine Calls.mono (SU1.out _ (by (repeat (first | (with_reducible exact Below.refl _ _) | (with_reducible assumption) | (with_reducible refine Below.drew ?_) | (focus ((with_reducible refine Below.setCell ?_ ?_ _); rotate_left; (first | omega | (simp <;> omega)))) | (focus ((with_reducible refine Below.alloc ?_ ?_ _); rotate_left; (first | omega | (simp <;> omega)))) | exact Below.refl _ _ | assumption | refine Below.drew ?_ | refine Below.alloc ?_ (by first | omega | (simp <;> omega)) _ | refine Below.setCell ?_ (by first | omega | (simp <;> omega)) _)))) ?_
        rintro e w3 ⟨rfl, hb_w3⟩
        have hz_w3 := hb_w3.size
        try simp at hz_w3
        obtain ⟨c_w3_w_0, f_w3_w_0⟩ := bk hb_w3 (w.heap.size) (by first | omega | (simp <;> omega))
        have c_w3_w_0_0 := c_w3_w_0 0
        conv at c_w3_w_0_0 => rhs; simp [go_sem, *]
        have f_w3_w_0_0 := f_w3_w_0 0
        conv at f_w3_w_0_0 => rhs; simp [go_sem, *]
        have c_w3_w_0_1 := c_w3_w_0 1
        conv at c_w3_w_0_1 => rhs; simp [go_sem, *]
        have f_w3_w_0_1 := f_w3_w_0 1
        conv at f_w3_w_0_1 => rhs; simp [go_sem, *]
        have c_w3_w_0_2 := c_w3_w_0 2
        conv at c_w3_w_0_2 => rhs; simp [go_sem, *]
        have f_w3_w_0_2 := f_w3_w_0 2
        conv at f_w3_w_0_2 => rhs; simp [go_sem, *]
        have c_w3_w_0_3 := c_w3_w_0 3
        conv at c_w3_w_0_3 => rhs; simp [go_sem, *]
        have f_w3_w_0_3 := f_w3_w_0 3
        conv at f_w3_w_0_3 => rhs; simp [go_sem, *]
        have c_w3_w_0_4 := c_w3_w_0 4
        conv at c_w3_w_0_4 => rhs; simp [go_sem, *]
        have f_w3_w_0_4 := f_w3_w_0 4
        conv at f_w3_w_0_4 => rhs; simp [go_sem, *]
        have c_w3_w_0_5 := c_w3_w_0 5
        conv at c_w3_w_0_5 => rhs; simp [go_sem, *]
        have f_w3_w_0_5 := f_w3_w_0 5
        conv at f_w3_w_0_5 => rhs; simp [go_sem, *]
        have HH_w3 := Lib.hid hb_w3
        have hB_w3 : Below w.heap.size w w3 := Below.trans (by (repeat (first | (with_reducible exact Below.refl _ _) | (with_reducible assumption) | (with_reducible refine Below.drew ?_) | (focus ((with_reducible refine Below.setCell ?_ ?_ _); rotate_left; (first | omega | (simp <;> omega)))) | (focus ((with_reducible refine Below.alloc ?_ ?_ _); rotate_left; (first | omega | (simp <;> omega)))) | exact Below.refl _ _ | assumption | refine Below.drew ?_ | refine Below.alloc ?_ (by first | omega | (simp <;> omega)) _ | refine Below.setCell ?_ (by first | omega | (simp <;> omega)) _))) (hb_w3.mono (by first | omega | (simp <;> omega)))
        clear hb_w3 c_w3_w_0 f_w3_w_0
        try clear c_w2_w_0_0
        try clear f_w2_w_0_0
        try clear c_w2_w_0_1
        try clear f_w2_w_0_1
        try clear c_w2_w_0_2
        try clear f_w2_w_0_2
        try clear c_w2_w_0_3
        try clear f_w2_w_0_3
        try clear c_w2_w_0_4
        try clear f_w2_w_0_4
        try clear c_w2_w_0_5
        try clear f_w2_w_0_5
        try clear far_w2_w_0
        try clear hB_w2
        have far_w3_w_0 := far (show w.heap.size < w3.heap.size by omega)
        go_wp2_with fail
        refine Calls.mono (RF.out _ (by (repeat (first | (with_reducible exact Below.refl _ _) | (with_reducible assumption) | (with_reducible refine Below.drew ?_) | (focus ((with_reducible refine Below.setCell ?_ ?_ _); rotate_left; (first | omega | (simp <;> omega)))) | (focus ((with_reducible refine Below.alloc ?_ ?_ _); rotate_left; (first | omega | (simp <;> omega)))) | exact Below.refl _ _ | assumption | refine Below.drew ?_ | refine Below.alloc ?_ (by first | omega | (simp <;> omega)) _ | refine Below.setCell ?_ (by first | omega | (simp <;> omega)) _)))) ?_
        rintro e w4 ⟨rfl, hb_w4⟩
        have hz_w4 := hb_w4.size
        try simp at hz_w4
        obtain ⟨c_w4_w_0, f_w4_w_0⟩ := bk hb_w4 (w.heap.size) (by first | omega | (simp <;> omega))
        have c_w4_w_0_0 := c_w4_w_0 0
        conv at c_w4_w_0_0 => rhs; simp [go_sem, *]
        have f_w4_w_0_0 := f_w4_w_0 0
        conv at f_w4_w_0_0 => rhs; simp [go_sem, *]
        have c_w4_w_0_1 := c_w4_w_0 1
        conv at c_w4_w_0_1 => rhs; simp [go_sem, *]
        have f_w4_w_0_1 := f_w4_w_0 1
        conv at f_w4_w_0_1 => rhs; simp [go_sem, *]
        have c_w4_w_0_2 := c_w4_w_0 2
        conv at c_w4_w_0_2 => rhs; simp [go_sem, *]
        have f_w4_w_0_2 := f_w4_w_0 2
        conv at f_w4_w_0_2 => rhs; simp [go_sem, *]
        have c_w4_w_0_3 := c_w4_w_0 3
        conv at c_w4_w_0_3 => rhs; simp [go_sem, *]
        have f_w4_w_0_3 := f_w4_w_0 3
        conv at f_w4_w_0_3 => rhs; simp [go_sem, *]
        have c_w4_w_0_4 := c_w4_w_0 4
        conv at c_w4_w_0_4 => rhs; simp [go_sem, *]
        have f_w4_w_0_4 := f_w4_w_0 4
        conv at f_w4_w_0_4 => rhs; simp [go_sem, *]
        have c_w4_w_0_5 := c_w4_w_0 5
        conv at c_w4_w_0_5 => rhs; simp [go_sem, *]
        have f_w4_w_0_5 := f_w4_w_0 5
        conv at f_w4_w_0_5 => rhs; simp [go_sem, *]
        have HH_w4 := Lib.hid hb_w4
        have hB_w4 : Below w.heap.size w w4 := Below.trans (by (repeat (first | (with_reducible exact Below.refl _ _) | (with_reducible assumption) | (with_reducible refine Below.drew ?_) | (focus ((with_reducible refine Below.setCell ?_ ?_ _); rotate_left; (first | omega | (simp <;> omega)))) | (focus ((with_reducible refine Below.alloc ?_ ?_ _); rotate_left; (first | omega | (simp <;> omega)))) | exact Below.refl _ _ | assumption | refine Below.drew ?_ | refine Below.alloc ?_ (by first | omega | (simp <;> omega)) _ | refine Below.setCell ?_ (by first | omega | (simp <;> omega)) _))) (hb_w4.mono (by first | omega | (simp <;> omega)))
        clear hb_w4 c_w4_w_0 f_w4_w_0
        try clear c_w3_w_0_0
        try clear f_w3_w_0_0
        try clear c_w3_w_0_1
        try clear f_w3_w_0_1
        try clear c_w3_w_0_2
        try clear f_w3_w_0_2
        try clear c_w3_w_0_3
        try clear f_w3_w_0_3
        try clear c_w3_w_0_4
        try clear f_w3_w_0_4
        try clear c_w3_w_0_5
        try clear f_w3_w_0_5
        try clear far_w3_w_0
        try clear hB_w3
        have far_w4_w_0 := far (show w.heap.size < w4.heap.size by omega)
        go_wp2_with fail
        refine Calls.mono (AL.out _ (by (repeat (first | (with_reducible exact Below.refl _ _) | (with_reducible assumption) | (with_reducible refine Below.drew ?_) | (focus ((with_reducible refine Below.setCell ?_ ?_ _); rotate_left; (first | omega | (simp <;> omega)))) | (focus ((with_reducible refine Below.alloc ?_ ?_ _); rotate_left; (first | omega | (simp <;> omega)))) | exact Below.refl _ _ | assumption | refine Below.drew ?_ | refine Below.alloc ?_ (by first | omega | (simp <;> omega)) _ | refine Below.setCell ?_ (by first | omega | (simp <;> omega)) _)))) ?_
        rintro e w5 ⟨rfl, hb_w5⟩
        have hz_w5 := hb_w5.size
        try simp at hz_w5
        obtain ⟨c_w5_w_0, f_w5_w_0⟩ := bk hb_w5 (w.heap.size) (by first | omega | (simp <;> omega))
        have c_w5_w_0_0 := c_w5_w_0 0
        conv at c_w5_w_0_0 => rhs; simp [go_sem, *]
        have f_w5_w_0_0 := f_w5_w_0 0
        conv at f_w5_w_0_0 => rhs; simp [go_sem, *]
        have c_w5_w_0_1 := c_w5_w_0 1
        conv at c_w5_w_0_1 => rhs; simp [go_sem, *]
        have f_w5_w_0_1 := f_w5_w_0 1
        conv at f_w5_w_0_1 => rhs; simp [go_sem, *]
        have c_w5_w_0_2 := c_w5_w_0 2
        conv at c_w5_w_0_2 => rhs; simp [go_sem, *]
        have f_w5_w_0_2 := f_w5_w_0 2
        conv at f_w5_w_0_2 => rhs; simp [go_sem, *]
        have c_w5_w_0_3 := c_w5_w_0 3
        conv at c_w5_w_0_3 => rhs; simp [go_sem, *]
        have f_w5_w_0_3 := f_w5_w_0 3
        conv at f_w5_w_0_3 => rhs; simp [go_sem, *]
        have c_w5_w_0_4 := c_w5_w_0 4
        conv at c_w5_w_0_4 => rhs; simp [go_sem, *]
        have f_w5_w_0_4 := f_w5_w_0 4
        conv at f_w5_w_0_4 => rhs; simp [go_sem, *]
        have c_w5_w_0_5 := c_w5_w_0 5
        conv at c_w5_w_0_5 => rhs; simp [go_sem, *]
        have f_w5_w_0_5 := f_w5_w_0 5
        conv at f_w5_w_0_5 => rhs; simp [go_sem, *]
        have HH_w5 := Lib.hid hb_w5
        have hB_w5 : Below w.heap.size w w5 := Below.trans (by (repeat (first | (with_reducible exact Below.refl _ _) | (with_reducible assumption) | (with_reducible refine Below.drew ?_) | (focus ((with_reducible refine Below.setCell ?_ ?_ _); rotate_left; (first | omega | (simp <;> omega)))) | (focus ((with_reducible refine Below.alloc ?_ ?_ _); rotate_left; (first | omega | (simp <;> omega)))) | exact Below.refl _ _ | assumption | refine Below.drew ?_ | refine Below.alloc ?_ (by first | omega | (simp <;> omega)) _ | refine Below.setCell ?_ (by first | omega | (simp <;> omega)) _))) (hb_w5.mono (by first | omega | (simp <;> omega)))
        clear hb_w5 c_w5_w_0 f_w5_w_0
        try clear c_w4_w_0_0
        try clear f_w4_w_0_0
        try clear c_w4_w_0_1
        try clear f_w4_w_0_1
        try clear c_w4_w_0_2
        try clear f_w4_w_0_2
        try clear c_w4_w_0_3
        try clear f_w4_w_0_3
        try clear c_w4_w_0_4
        try clear f_w4_w_0_4
        try clear c_w4_w_0_5
        try clear f_w4_w_0_5
        try clear far_w4_w_0
        try clear hB_w4
        have far_w5_w_0 := far (show w.heap.size < w5.heap.size by omega)
        go_wp2
        go_ret
        exact ⟨ret_bool (by simp), by (repeat (first | (with_reducible exact Below.refl _ _) | (with_reducible assumption) | (with_reducible refine Below.drew ?_) | (focus ((with_reducible refine Below.setCell ?_ ?_ _); rotate_left; (first | omega | (simp <;> omega)))) | (focus ((with_reducible refine Below.alloc ?_ ?_ _); rotate_left; (first | omega | (simp <;> omega)))) | exact Below.refl _ _ | assumption | refine Below.drew ?_ | refine Below.alloc ?_ (by first | omega | (simp <;> omega)) _ | refine Below.setCell ?_ (by first | omega | (simp <;> omega)) _))⟩
      | false =>
        simp only [if_false, Bool.false_eq_true] at SU1
        go_wp2_with fail
        refine Calls.mono (SU1.out _ (by (repeat (first | (with_reducible exact Below.refl _ _) | (with_reducible assumption) | (with_reducible refine Below.drew ?_) | (focus ((with_reducible refine Below.setCell ?_ ?_ _); rotate_left; (first | omega | (simp <;> omega)))) | (focus ((with_reducible refine Below.alloc ?_ ?_ _); rotate_left; (first | omega | (simp <;> omega)))) | exact Below.refl _ _ | assumption | refine Below.drew ?_ | refine Below.alloc ?_ (by first | omega | (simp <;> omega)) _ | refine Below.setCell ?_ (by first | omega | (simp <;> omega)) _)))) ?_
        rintro e w3 ⟨rfl, hb_w3⟩
        have hz_w3 := hb_w3.size
        try simp at hz_w3
        obtain ⟨c_w3_w_0, f_w3_w_0⟩ := bk hb_w3 (w.heap.size) (by first | omega | (simp <;> omega))
        have c_w3_w_0_0 := c_w3_w_0 0
        conv at c_w3_w_0_0 => rhs; simp [go_sem, *]
        have f_w3_w_0_0 := f_w3_w_0 0
        conv at f_w3_w_0_0 => rhs; simp [go_sem, *]
        have c_w3_w_0_1 := c_w3_w_0 1
        conv at c_w3_w_0_1 => rhs; simp [go_sem, *]
        have f_w3_w_0_1 := f_w3_w_0 1
        conv at f_w3_w_0_1 => rhs; simp [go_sem, *]
        have c_w3_w_0_2 := c_w3_w_0 2
        conv at c_w3_w_0_2 => rhs; simp [go_sem, *]
        have f_w3_w_0_2 := f_w3_w_0 2
        conv at f_w3_w_0_2 => rhs; simp [go_sem, *]
        have c_w3_w_0_3 := c_w3_w_0 3
        conv at c_w3_w_0_3 => rhs; simp [go_sem, *]
        have f_w3_w_0_3 := f_w3_w_0 3
        conv at f_w3_w_0_3 => rhs; simp [go_sem, *]
        have c_w3_w_0_4 := c_w3_w_0 4
        conv at c_w3_w_0_4 => rhs; simp [go_sem, *]
        have f_w3_w_0_4 := f_w3_w_0 4
        conv at f_w3_w_0_4 => rhs; simp [go_sem, *]
        have c_w3_w_0_5 := c_w3_w_0 5
        conv at c_w3_w_0_5 => rhs; simp [go_sem, *]
        have f_w3_w_0_5 := f_w3_w_0 5
        conv at f_w3_w_0_5 => rhs; simp [go_sem, *]
        have HH_w3 := Lib.hid hb_w3
        have hB_w3 : Below w.heap.size w w3 := Below.trans (by (repeat (first | (with_reducible exact Below.refl _ _) | (with_reducible assumption) | (with_reducible refine Below.drew ?_) | (focus ((with_reducible refine Below.setCell ?_ ?_ _); rotate_left; (first | omega | (simp <;> omega)))) | (focus ((with_reducible refine Below.alloc ?_ ?_ _); rotate_left; (first | omega | (simp <;> omega)))) | exact Below.refl _ _ | assumption | refine Below.drew ?_ | refine Below.alloc ?_ (by first | omega | (simp <;> omega)) _ | refine Below.setCell ?_ (by first | omega | (simp <;> omega)) _))) (hb_w3.mono (by first | omega | (simp <;> omega)))
        clear hb_w3 c_w3_w_0 f_w3_w_0
        try clear c_w5_w_0_0
        try clear f_w5_w_0_0
        try clear c_w5_w_0_1
        try clear f_w5_w_0_1
        try clear c_w5_w_0_2
        try clear f_w5_w_0_2
        try clear c_w5_w_0_3
        try clear f_w5_w_0_3
        try clear c_w5_w_0_4
        try clear f_w5_w_0_4
        try clear c_w5_w_0_5
        try clear f_w5_w_0_5
        try clear far_w5_w_0
        try clear hB_w5
        have far_w3_w_0 := far (show w.heap.size < w3.heap.size by omega)
        go_wp2_with fail
        refine Calls.mono (RF.out _ (by (repeat (first | (with_reducible exact Below.refl _ _) | (with_reducible assumption) | (with_reducible refine Below.drew ?_) | (focus ((with_reducible refine Below.setCell ?_ ?_ _); rotate_left; (first | omega | (simp <;> omega)))) | (focus ((with_reducible refine Below.alloc ?_ ?_ _); rotate_left; (first | omega | (simp <;> omega)))) | exact Below.refl _ _ | assumption | refine Below.drew ?_ | refine Below.alloc ?_ (by first | omega | (simp <;> omega)) _ | refine Below.setCell ?_ (by first | omega | (simp <;> omega)) _)))) ?_
        rintro e w4 ⟨rfl, hb_w4⟩
        have hz_w4 := hb_w4.size
        try simp at hz_w4
        obtain ⟨c_w4_w_0, f_w4_w_0⟩ := bk hb_w4 (w.heap.size) (by first | omega | (simp <;> omega))
        have c_w4_w_0_0 := c_w4_w_0 0
        conv at c_w4_w_0_0 => rhs; simp [go_sem, *]
        have f_w4_w_0_0 := f_w4_w_0 0
        conv at f_w4_w_0_0 => rhs; simp [go_sem, *]
        have c_w4_w_0_1 := c_w4_w_0 1
        conv at c_w4_w_0_1 => rhs; simp [go_sem, *]
        have f_w4_w_0_1 := f_w4_w_0 1
        conv at f_w4_w_0_1 => rhs; simp [go_sem, *]
        have c_w4_w_0_2 := c_w4_w_0 2
        conv at c_w4_w_0_2 => rhs; simp [go_sem, *]
        have f_w4_w_0_2 := f_w4_w_0 2
        conv at f_w4_w_0_2 => rhs; simp [go_sem, *]
        have c_w4_w_0_3 := c_w4_w_0 3
        conv at c_w4_w_0_3 => rhs; simp [go_sem, *]
        have f_w4_w_0_3 := f_w4_w_0 3
        conv at f_w4_w_0_3 => rhs; simp [go_sem, *]
        have c_w4_w_0_4 := c_w4_w_0 4
        conv at c_w4_w_0_4 => rhs; simp [go_sem, *]
        have f_w4_w_0_4 := f_w4_w_0 4
        conv at f_w4_w_0_4 => rhs; simp [go_sem, *]
        have c_w4_w_0_5 := c_w4_w_0 5
        conv at c_w4_w_0_5 => rhs; simp [go_sem, *]
        have f_w4_w_0_5 := f_w4_w_0 5
        conv at f_w4_w_0_5 => rhs; simp [go_sem, *]
        have HH_w4 := Lib.hid hb_w4
        have hB_w4 : Below w.heap.size w w4 := Below.trans (by (repeat (first | (with_reducible exact Below.refl _ _) | (with_reducible assumption) | (with_reducible refine Below.drew ?_) | (focus ((with_reducible refine Below.setCell ?_ ?_ _); rotate_left; (first | omega | (simp <;> omega)))) | (focus ((with_reducible refine Below.alloc ?_ ?_ _); rotate_left; (first | omega | (simp <;> omega)))) | exact Below.refl _ _ | assumption | refine Below.drew ?_ | refine Below.alloc ?_ (by first | omega | (simp <;> omega)) _ | refine Below.setCell ?_ (by first | omega | (simp <;> omega)) _))) (hb_w4.mono (by first | omega | (simp <;> omega)))
        clear hb_w4 c_w4_w_0 f_w4_w_0
        try clear c_w3_w_0_0
        try clear f_w3_w_0_0
        try clear c_w3_w_0_1
        try clear f_w3_w_0_1
        try clear c_w3_w_0_2
        try clear f_w3_w_0_2
        try clear c_w3_w_0_3
        try clear f_w3_w_0_3
        try clear c_w3_w_0_4
        try clear f_w3_w_0_4
        try clear c_w3_w_0_5
        try clear f_w3_w_0_5
        try clear far_w3_w_0
        try clear hB_w3
        have far_w4_w_0 := far (show w.heap.size < w4.heap.size by omega)
        go_wp2_with fail
        refine Calls.mono (AL.out _ (by (repeat (first | (with_reducible exact Below.refl _ _) | (with_reducible assumption) | (with_reducible refine Below.drew ?_) | (focus ((with_reducible refine Below.setCell ?_ ?_ _); rotate_left; (first | omega | (simp <;> omega)))) | (focus ((with_reducible refine Below.alloc ?_ ?_ _); rotate_left; (first | omega | (simp <;> omega)))) | exact Below.refl _ _ | assumption | refine Below.drew ?_ | refine Below.alloc ?_ (by first | omega | (simp <;> omega)) _ | refine Below.setCell ?_ (by first | omega | (simp <;> omega)) _)))) ?_
        rintro e w5 ⟨rfl, hb_w5⟩
        have hz_w5 := hb_w5.size
        try simp at hz_w5
        obtain ⟨c_w5_w_0, f_w5_w_0⟩ := bk hb_w5 (w.heap.size) (by first | omega | (simp <;> omega))
        have c_w5_w_0_0 := c_w5_w_0 0
        conv at c_w5_w_0_0 => rhs; simp [go_sem, *]
        have f_w5_w_0_0 := f_w5_w_0 0
        conv at f_w5_w_0_0 => rhs; simp [go_sem, *]
        have c_w5_w_0_1 := c_w5_w_0 1
        conv at c_w5_w_0_1 => rhs; simp [go_sem, *]
        have f_w5_w_0_1 := f_w5_w_0 1
        conv at f_w5_w_0_1 => rhs; simp [go_sem, *]
        have c_w5_w_0_2 := c_w5_w_0 2
        conv at c_w5_w_0_2 => rhs; simp [go_sem, *]
        have f_w5_w_0_2 := f_w5_w_0 2
        conv at f_w5_w_0_2 => rhs; simp [go_sem, *]
        have c_w5_w_0_3 := c_w5_w_0 3
        conv at c_w5_w_0_3 => rhs; simp [go_sem, *]
        have f_w5_w_0_3 := f_w5_w_0 3
        conv at f_w5_w_0_3 => rhs; simp [go_sem, *]
        have c_w5_w_0_4 := c_w5_w_0 4
        conv at c_w5_w_0_4 => rhs; simp [go_sem, *]
        have f_w5_w_0_4 := f_w5_w_0 4
        conv at f_w5_w_0_4 => rhs; simp [go_sem, *]
        have c_w5_w_0_5 := c_w5_w_0 5
        conv at c_w5_w_0_5 => rhs; simp [go_sem, *]
        have f_w5_w_0_5 := f_w5_w_0 5
        conv at f_w5_w_0_5 => rhs; simp [go_sem, *]
        have HH_w5 := Lib.hid hb_w5
        have hB_w5 : Below w.heap.size w w5 := Below.trans (by (repeat (first | (with_reducible exact Below.refl _ _) | (with_reducible assumption) | (with_reducible refine Below.drew ?_) | (focus ((with_reducible refine Below.setCell ?_ ?_ _); rotate_left; (first | omega | (simp <;> omega)))) | (focus ((with_reducible refine Below.alloc ?_ ?_ _); rotate_left; (first | omega | (simp <;> omega)))) | exact Below.refl _ _ | assumption | refine Below.drew ?_ | refine Below.alloc ?_ (by first | omega | (simp <;> omega)) _ | refine Below.setCell ?_ (by first | omega | (simp <;> omega)) _))) (hb_w5.mono (by first | omega | (simp <;> omega)))
        clear hb_w5 c_w5_w_0 f_w5_w_0
        try clear c_w4_w_0_0
        try clear f_w4_w_0_0
        try clear c_w4_w_0_1
        try clear f_w4_w_0_1
        try clear c_w4_w_0_2
        try clear f_w4_w_0_2
        try clear c_w4_w_0_3
        try clear f_w4_w_0_3
        try clear c_w4_w_0_4
        try clear f_w4_w_0_4
        try clear c_w4_w_0_5
        try clear f_w4_w_0_5
        try clear far_w4_w_0
        try clear hB_w4
        have far_w5_w_0 := far (show w.heap.size < w5.heap.size by omega)
        go_wp2
        go_ret
        exact ⟨ret_bool (by simp), by (repeat (first | (with_reducible exact Below.refl _ _) | (with_reducible assumption) | (with_reducible refine Below.drew ?_) | (focus ((with_reducible refine Below.setCell ?_ ?_ _); rotate_left; (first | omega | (simp <;> omega)))) | (focus ((with_reducible refine Below.alloc ?_ ?_ _); rotate_left; (first | omega | (simp <;> omega)))) | exact Below.refl _ _ | assumption | refine Below.drew ?_ | refine Below.alloc ?_ (by first | omega | (simp <;> omega)) _ | refine Below.setCell ?_ (by first | omega | (simp <;> omega)) _))⟩
end Go.Proofs.YtenflcaalckdfaaDoor
