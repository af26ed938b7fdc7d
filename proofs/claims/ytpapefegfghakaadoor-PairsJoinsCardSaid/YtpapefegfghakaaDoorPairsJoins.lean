/- The law PairsJoins: its walk. -/
import Derived.Test.YtpapefegfghakaaDoorPairsReads
import Derived.Test.YtpapefegfghakaaDoorPairRow2
namespace Go.Proofs.YtpapefegfghakaaDoor
open Go.RowKit Go.Sort Go.Shelf
set_option linter.unusedVariables false

theorem someL_append (a b : List (List UInt8)) : someL (a ++ b) = someL a ++ someL b := List.filter_append _ _
theorem query_join (a b : List UInt8) : queryL (a ++ 38 :: b) = queryL a ++ queryL b := by
  unfold queryL; rw [split_join, someL_append, List.map_append]
theorem cookies_join (a b : List UInt8) : cookiesL (a ++ 59 :: b) = cookiesL a ++ cookiesL b := by
  unfold cookiesL; rw [split_join, someL_append, List.flatMap_append]
theorem queryL_len (a : List UInt8) : (queryL a).length ≤ a.length + 1 := by
  unfold queryL
  rw [List.length_map]
  exact Nat.le_trans (someL_len _) (split_count _ _)
theorem cookiesL_len (a : List UInt8) : (cookiesL a).length ≤ a.length + 1 := by
  unfold cookiesL
  exact Nat.le_trans (cookies_len _) (Nat.le_trans (someL_len _) (split_count _ _))

set_option maxHeartbeats 3200000 in
set_option maxRecDepth 100000 in
theorem pairsJoins_any (sa sb name : ByteArray) (w : World) (k1 : sa.size ≤ maxLen) (k2 : sb.size ≤ maxLen) (k3 : name.size ≤ maxLen) (_hL : True) (hM : ∃ m, w.cell? ⟨0, 0, none⟩ = some (.int .i64 m)) :
    Calls Tryd.prog 7 #[.string sa, .string sb, .string name] w fun e w' => e = .returned (.bool true) ∧ Below w.heap.size w w' := by
  obtain ⟨a0, rfl⟩ := S_of sa
  obtain ⟨b0, rfl⟩ := S_of sb
  obtain ⟨m, rfl⟩ := S_of name
  rw [S_size] at k1 k2 k3
  have hm : maxLen = 9223372036854775807 := rfl
  rw [hm] at k1 k2 k3
  clear hm
  have HM := Lib.hid (fun W hb => mlen_later hM W hb)
  have SA := Lib.hid (fun W => pairs_short a0 (by omega) W)
  have SB := Lib.hid (fun W => pairs_short b0 (by omega) W)
  obtain ⟨a, ha⟩ : ∃ t, a0.take 600 = t := ⟨_, rfl⟩
  obtain ⟨b, hb⟩ : ∃ t, b0.take 600 = t := ⟨_, rfl⟩
  have hal : a.length ≤ 600 := by rw [← ha, List.length_take]; omega
  have hbl : b.length ≤ 600 := by rw [← hb, List.length_take]; omega
  rw [ha] at SA
  rw [hb] at SB
  have hai : (a.length : Int) ≤ 600 := by omega
  have hbi : (b.length : Int) ≤ 600 := by omega
  have JQ := Lib.hid (fun (l : List UInt8) (hl : l = a ++ 38 :: b) W h => (show Calls Tryd.prog 11 #[.string (S l)] W (fun e w' => ∃ v, e = .returned v ∧ OwnsF w' W.heap.size v (queryL a ++ queryL b) ∧ Below W.heap.size W w') from by
    have := pairsQuery l (by rw [hl, List.length_append, List.length_cons]; omega) W h
    rw [hl, query_join] at this
    rw [hl]; exact this))
  have JC := Lib.hid (fun (l : List UInt8) (hl : l = a ++ 59 :: b) W h => (show Calls Tryd.prog 12 #[.string (S l)] W (fun e w' => ∃ v, e = .returned v ∧ OwnsF w' W.heap.size v (cookiesL a ++ cookiesL b) ∧ Below W.heap.size W w') from by
    have := pairsCookies l (by rw [hl, List.length_append, List.length_cons]; omega) W h
    rw [hl, cookies_join] at this
    rw [hl]; exact this))
  have CQA := Lib.hid (fun W h => pairsQuery a (by omega) W h)
  have CQB := Lib.hid (fun W h => pairsQuery b (by omega) W h)
  have CCA := Lib.hid (fun W h => pairsCookies a (by omega) W h)
  have CCB := Lib.hid (fun W h => pairsCookies b (by omega) W h)
  have q1 := queryL_len a
  have q2 := queryL_len b
  have q3 := cookiesL_len a
  have q4 := cookiesL_len b
  obtain ⟨QA, hQA⟩ : ∃ Q, queryL a = Q := ⟨_, rfl⟩
  obtain ⟨QB, hQB⟩ : ∃ Q, queryL b = Q := ⟨_, rfl⟩
  obtain ⟨CA, hCA⟩ : ∃ Q, cookiesL a = Q := ⟨_, rfl⟩
  obtain ⟨CB, hCB⟩ : ∃ Q, cookiesL b = Q := ⟨_, rfl⟩
  rw [hQA] at JQ CQA q1
  rw [hQB] at JQ CQB q2
  rw [hCA] at JC CCA q3
  rw [hCB] at JC CCB q4
  have FI := Lib.hid (fun u W (hr : ReadsF W u (QA ++ QB)) => pairsFind u (QA ++ QB) m W hr)
  have AL := Lib.hid (fun W h => pairs_alive W h)
  clear ha hb hQA hQB hCA hCB hM
  go_enter Tryd.func7, Tryd.ntmps7
  go_wp2_with (first
    | (go_at_call 15; with_reducible refine Calls.mono (SA.out _) ?_; rintro e w' ⟨rfl, hw'⟩; obtain rfl := hw'.symm)
    | (go_at_call 15; with_reducible refine Calls.mono (SB.out _) ?_; rintro e w' ⟨rfl, hw'⟩; obtain rfl := hw'.symm)
    | fail)
  refine Calls.mono (JQ.out _ (by simp) _ (HM.out _ (by (repeat (first | (with_reducible exact Below.refl _ _) | (with_reducible assumption) | (with_reducible refine Below.drew ?_) | (focus ((with_reducible refine Below.setCell ?_ ?_ _); rotate_left; (first | omega | (simp <;> omega)))) | (focus ((with_reducible refine Below.alloc ?_ ?_ _); rotate_left; (first | omega | (simp <;> omega)))) | exact Below.refl _ _ | assumption | refine Below.drew ?_ | refine Below.alloc ?_ (by first | omega | (simp <;> omega)) _ | refine Below.setCell ?_ (by first | omega | (simp <;> omega)) _))))) ?_
  rintro e w1 ⟨v1, rfl, ho1, hb1⟩
  have hB1 : Below w.heap.size w w1 := Below.trans (by (repeat (first | (with_reducible exact Below.refl _ _) | (with_reducible assumption) | (with_reducible refine Below.drew ?_) | (focus ((with_reducible refine Below.setCell ?_ ?_ _); rotate_left; (first | omega | (simp <;> omega)))) | (focus ((with_reducible refine Below.alloc ?_ ?_ _); rotate_left; (first | omega | (simp <;> omega)))) | exact Below.refl _ _ | assumption | refine Below.drew ?_ | refine Below.alloc ?_ (by first | omega | (simp <;> omega)) _ | refine Below.setCell ?_ (by first | omega | (simp <;> omega)) _))) (hb1.mono (by (first | omega | (simp <;> omega))))
  have hz1 := hB1.size
  have R1 := Lib.hid ho1.reads
  clear ho1
  go_wp2_with fail
  refine Calls.mono (JC.out _ (by simp) _ (HM.out _ hB1)) ?_
  rintro e w2 ⟨v2, rfl, ho2, hb2⟩
  have hB2 := hB1.trans (hb2.mono hz1)
  have hz2 := hB2.size
  have RQ2 := Lib.hid (R1.out.below hb2)
  have RC2 := Lib.hid ho2.reads
  clear ho2 hb1 hb2 R1
  have M0 : OwnsF (w2.alloc (.cells #[] 24)) w2.heap.size (.slice (some ⟨w2.heap.size, 0, none⟩) 0 0) [] := OwnsF.made w2 _ (Nat.le_refl _)
  have M0 := Lib.hid M0
  have b02 : Below w2.heap.size w2 (w2.alloc (.cells #[] 24)) := by (repeat (first | (with_reducible exact Below.refl _ _) | (with_reducible assumption) | (with_reducible refine Below.drew ?_) | (focus ((with_reducible refine Below.setCell ?_ ?_ _); rotate_left; (first | omega | (simp <;> omega)))) | (focus ((with_reducible refine Below.alloc ?_ ?_ _); rotate_left; (first | omega | (simp <;> omega)))) | exact Below.refl _ _ | assumption | refine Below.drew ?_ | refine Below.alloc ?_ (by first | omega | (simp <;> omega)) _ | refine Below.setCell ?_ (by first | omega | (simp <;> omega)) _))
  go_wp2_with fail
  refine Calls.mono (CQA.out _ (HM.out _ (hB2.trans (b02.mono hz2)))) ?_
  rintro e w3 ⟨v3, rfl, ho3, hb3⟩
  have R3 := Lib.hid ho3.reads
  have O3 := Lib.hid (M0.out.below hb3)
  have hb3' := b02.trans (hb3.mono (by simp))
  have hz3 := hb3'.size
  obtain ⟨ao3, cap3, rfl, i31, i32, _, _⟩ := ho3.reads
  clear ho3
  go_wp2_with (first
    | (at_builtin; refine wp_append_row rfl _ _ rfl _ w2.heap.size _ [] O3.out rfl ao3 cap3 QA R3.out rfl (by simp; omega) hz3 ?_; intro v4 w4 hown4 hb4; have O4 := Lib.hid hown4; have hb4' := hb3'.trans hb4; have hz4 := hb4'.size; clear hown4)
    | (go_at_call 11; refine Calls.mono (CQB.out _ (HM.out _ (hB2.trans (hb4'.mono hz2)))) ?_; rintro e w5 ⟨v5, rfl, ho5, hb5⟩; have R5 := Lib.hid ho5.reads; have O5 := Lib.hid (O4.out.below hb5); have hb5' := hb4'.trans (hb5.mono hz4); have hz5 := hb5'.size; obtain ⟨ao5, cap5, rfl, i51, i52, _, _⟩ := ho5.reads; clear ho5)
    | (at_builtin; refine wp_append_row rfl _ _ rfl _ w2.heap.size _ ([] ++ QA) O5.out rfl ao5 cap5 QB R5.out rfl (by simp; omega) hz5 ?_; intro v6 w6 hown6 hb6; have O6 := Lib.hid (show OwnsF w6 w2.heap.size v6 (QA ++ QB) from hown6); have hb6' := hb5'.trans hb6; have hz6 := hb6'.size; have M6 := Lib.hid (show OwnsF (w6.alloc (.cells #[] 24)) w6.heap.size (.slice (some ⟨w6.heap.size, 0, none⟩) 0 0) [] from OwnsF.made w6 _ (Nat.le_refl _)); have b06 : Below w6.heap.size w6 (w6.alloc (.cells #[] 24)) := (Below.refl _ _).alloc (Nat.le_refl _) _; clear hown6)
    | (go_at_call 12; refine Calls.mono (CCA.out _ (HM.out _ (hB2.trans ((hb6'.trans (b06.mono hz6)).mono hz2)))) ?_; rintro e w7 ⟨v7, rfl, ho7, hb7⟩; have R7 := Lib.hid ho7.reads; have O7 := Lib.hid (M6.out.below hb7); have hb7' := b06.trans (hb7.mono (by simp)); have hz7 := hb7'.size; obtain ⟨ao7, cap7, rfl, i71, i72, _, _⟩ := ho7.reads; clear ho7)
    | (at_builtin; refine wp_append_row rfl _ _ rfl _ w6.heap.size _ [] O7.out rfl ao7 cap7 CA R7.out rfl (by simp; omega) hz7 ?_; intro v8 w8 hown8 hb8; have O8 := Lib.hid hown8; have hb8' := hb7'.trans hb8; have hz8 := hb8'.size; clear hown8)
    | (go_at_call 12; refine Calls.mono (CCB.out _ (HM.out _ (hB2.trans ((hb6'.trans (hb8'.mono hz6)).mono hz2)))) ?_; rintro e w9 ⟨v9, rfl, ho9, hb9⟩; have R9 := Lib.hid ho9.reads; have O9 := Lib.hid (O8.out.below hb9); have hb9' := hb8'.trans (hb9.mono hz8); have hz9 := hb9'.size; obtain ⟨ao9, cap9, rfl, i91, i92, _, _⟩ := ho9.reads; clear ho9)
    | (at_builtin; refine wp_append_row rfl _ _ rfl _ w6.heap.size _ ([] ++ CA) O9.out rfl ao9 cap9 CB R9.out rfl (by simp; omega) hz9 ?_; intro v10 w10 hown10 hb10; have O10 := Lib.hid (show OwnsF w10 w6.heap.size v10 (CA ++ CB) from hown10); have hb10' := hb9'.trans hb10; have hz10 := hb10'.size; clear hown10)
    | fail)
  have RX10 := Lib.hid (O6.out.reads.below hb10')
  refine Calls.mono (FI.out _ _ RX10.out) ?_
  rintro e w11 ⟨rfl, hb11⟩
  have hb11' := hb10'.trans (hb11.mono hz10)
  have hb2_11 := hb6'.trans (hb11'.mono hz6)
  have HB11 := Lib.hid (hB2.trans (hb2_11.mono hz2))
  have hz11 := HB11.out.size
  have RX := Lib.hid (RX10.out.below hb11)
  have RQ := Lib.hid (RQ2.out.below hb2_11)
  have RC := Lib.hid (RC2.out.below hb2_11)
  have RY := Lib.hid (O10.out.reads.below hb11)
  have HF := Lib.hid (fun (k : Nat) (hk : k < (QA ++ QB).length) (h : ∀ j (hj : j < (QA ++ QB).length), j < k → ((QA ++ QB)[j].1 == m) = false) (h2 : ((QA ++ QB)[k].1 == m) = true) => (show findV (QA ++ QB) m = ((QA ++ QB)[k].2, true) from by
    unfold findV
    rw [(List.find?_eq_some_iff_getElem (p := fun f : Fld => f.1 == m)).2 ⟨h2, k, hk, rfl, fun j hj => by simp [h j (by omega) hj]⟩]))
  have HN := Lib.hid (fun (h : ∀ j (hj : j < (QA ++ QB).length), ((QA ++ QB)[j].1 == m) = false) => (show findV (QA ++ QB) m = ([], false) from by
    unfold findV
    rw [List.find?_eq_none.2 fun f hf => by obtain ⟨j, hj, rfl⟩ := List.getElem_of_mem hf; simp [h j hj]]))
  obtain ⟨⟨fx, fy⟩, hfxy⟩ : ∃ q, findV (QA ++ QB) m = q := ⟨_, rfl⟩
  rw [hfxy] at HF HN ⊢
  obtain ⟨X, hX⟩ : ∃ X, QA ++ QB = X := ⟨_, rfl⟩
  rw [hX] at RX RQ HF HN
  have hXl : X.length ≤ 1300 := by rw [← hX, List.length_append]; omega
  obtain ⟨aox, capx, rfl, j1, j2, _, hcellx⟩ := RX.out
  have hm : maxLen = 9223372036854775807 := rfl
  rw [hm] at j2
  have HCX := Lib.hid hcellx
  simp only
  clear hfxy hX hm hcellx RX10 O3 O4 O5 O6 O7 O8 O9 O10 M0 M6 R3 R5 R7 R9 RQ2 RC2 hb3 hb3' hb4 hb4' hb5 hb5' hb6 hb6' hb7 hb7' hb8 hb8' hb9 hb9' hb10 hb10' hb11 hb11' hb2_11 b02 b06 hB1 hB2 i31 i32 i51 i52 i71 i72 i91 i92
  go_wp2_with fail
  go_loopw [51] (fun iv wr => ∃ i : Nat, iv = .int .i64 i ∧ i ≤ X.length ∧ (∀ j (h : j < X.length), j < i → (X[j].1 == m) = false) ∧ Below w11.heap.size w11 wr) (fun iv _ => X.length - (intOf iv).toNat)
  case atStart => exact ⟨0, rfl, Nat.zero_le _, fun j _ h => by omega, by (repeat (first | (with_reducible exact Below.refl _ _) | (with_reducible assumption) | (with_reducible refine Below.drew ?_) | (focus ((with_reducible refine Below.setCell ?_ ?_ _); rotate_left; (first | omega | (simp <;> omega)))) | (focus ((with_reducible refine Below.alloc ?_ ?_ _); rotate_left; (first | omega | (simp <;> omega)))) | exact Below.refl _ _ | assumption | refine Below.drew ?_ | refine Below.alloc ?_ (by first | omega | (simp <;> omega)) _ | refine Below.setCell ?_ (by first | omega | (simp <;> omega)) _))⟩
  case round =>
    obtain ⟨i, rfl, hi, hall, hBr⟩ := hrel
    have HA := Lib.hid hall
    have hz := hBr.size
    have HBr := Lib.hid (HB11.out.trans (hBr.mono hz11))
    have hzr := HBr.out.size
    clear hall
    by_cases hlt : i < X.length
    · obtain ⟨b, off, rfl, hb, hcl⟩ := HCX.out (by omega)
      obtain ⟨e1, e2⟩ := hcl i hlt
      rw [← hBr.cell (p := ⟨b, off + i * 2, none⟩) hb] at e1
      rw [← hBr.cell (p := ⟨b, off + i * 2 + 1, none⟩) hb] at e2
      have HYES := Lib.hid (fun h => HF.out i hlt HA.out h)
      have HNO := Lib.hid (show (X[i].1 == m) = false → ∀ j (h : j < X.length), j < i + 1 → (X[j].1 == m) = false from fun h j hj hji => by
        by_cases e : j = i
        · subst e; exact h
        · exact HA.out j hj (by omega))
      obtain ⟨⟨n, u⟩, hf⟩ : ∃ f, X[i] = f := ⟨_, rfl⟩
      rw [hf] at e1 e2 HYES HNO
      simp only at e1 e2 HYES HNO
      obtain ⟨q, hq⟩ : ∃ q, (n == m) = q := ⟨_, rfl⟩
      rw [hq] at HYES HNO
      clear hcl hf
      cases q with
      | true =>
        have hr := HYES.out rfl
        injection hr with r1 r2
        subst r1 r2
        clear HF HN HNO HYES
        go_wp2_with fail
        refine Calls.mono (AL.out _ (HM.out _ (HBr.out.trans (Below.mono (show Below wr.heap.size wr _ by (repeat (first | (with_reducible exact Below.refl _ _) | (with_reducible assumption) | (with_reducible refine Below.drew ?_) | (focus ((with_reducible refine Below.setCell ?_ ?_ _); rotate_left; (first | omega | (simp <;> omega)))) | (focus ((with_reducible refine Below.alloc ?_ ?_ _); rotate_left; (first | omega | (simp <;> omega)))) | exact Below.refl _ _ | assumption | refine Below.drew ?_ | refine Below.alloc ?_ (by first | omega | (simp <;> omega)) _ | refine Below.setCell ?_ (by first | omega | (simp <;> omega)) _))) hzr)))) ?_
        rintro e x1 ⟨rfl, hb_x1⟩
        have hz_x1 := hb_x1.size
        try simp at hz_x1
        obtain ⟨c_x1_wr_0, f_x1_wr_0⟩ := bk hb_x1 (wr.heap.size) (by first | omega | (simp <;> omega))
        have c_x1_wr_0_0 := c_x1_wr_0 0
        conv at c_x1_wr_0_0 => rhs; simp [go_sem, *]
        have f_x1_wr_0_0 := f_x1_wr_0 0
        conv at f_x1_wr_0_0 => rhs; simp [go_sem, *]
        have c_x1_wr_0_1 := c_x1_wr_0 1
        conv at c_x1_wr_0_1 => rhs; simp [go_sem, *]
        have f_x1_wr_0_1 := f_x1_wr_0 1
        conv at f_x1_wr_0_1 => rhs; simp [go_sem, *]
        have HH_x1 := Lib.hid hb_x1
        have hB_x1 : Below wr.heap.size wr x1 := Below.trans (by (repeat (first | (with_reducible exact Below.refl _ _) | (with_reducible assumption) | (with_reducible refine Below.drew ?_) | (focus ((with_reducible refine Below.setCell ?_ ?_ _); rotate_left; (first | omega | (simp <;> omega)))) | (focus ((with_reducible refine Below.alloc ?_ ?_ _); rotate_left; (first | omega | (simp <;> omega)))) | exact Below.refl _ _ | assumption | refine Below.drew ?_ | refine Below.alloc ?_ (by first | omega | (simp <;> omega)) _ | refine Below.setCell ?_ (by first | omega | (simp <;> omega)) _))) (hb_x1.mono (by first | omega | (simp <;> omega)))
        clear hb_x1 c_x1_wr_0 f_x1_wr_0
        have far_x1_wr_0 := far (show wr.heap.size < x1.heap.size by omega)
        go_wp2_with fail
        refine Calls.mono (pSame_true X _ _ _ (RQ.out.below (hBr.trans (hB_x1.mono hz))) (RX.out.below (hBr.trans (hB_x1.mono hz)))) ?_
        rintro e x2 ⟨rfl, hb_x2⟩
        have hz_x2 := hb_x2.size
        try simp at hz_x2
        obtain ⟨c_x2_wr_0, f_x2_wr_0⟩ := bk hb_x2 (wr.heap.size) (by first | omega | (simp <;> omega))
        have c_x2_wr_0_0 := c_x2_wr_0 0
        conv at c_x2_wr_0_0 => rhs; simp [go_sem, *]
        have f_x2_wr_0_0 := f_x2_wr_0 0
        conv at f_x2_wr_0_0 => rhs; simp [go_sem, *]
        have c_x2_wr_0_1 := c_x2_wr_0 1
        conv at c_x2_wr_0_1 => rhs; simp [go_sem, *]
        have f_x2_wr_0_1 := f_x2_wr_0 1
        conv at f_x2_wr_0_1 => rhs; simp [go_sem, *]
        have HH_x2 := Lib.hid hb_x2
        have hB_x2 : Below wr.heap.size wr x2 := Below.trans (by (repeat (first | (with_reducible exact Below.refl _ _) | (with_reducible assumption) | (with_reducible refine Below.drew ?_) | (focus ((with_reducible refine Below.setCell ?_ ?_ _); rotate_left; (first | omega | (simp <;> omega)))) | (focus ((with_reducible refine Below.alloc ?_ ?_ _); rotate_left; (first | omega | (simp <;> omega)))) | exact Below.refl _ _ | assumption | refine Below.drew ?_ | refine Below.alloc ?_ (by first | omega | (simp <;> omega)) _ | refine Below.setCell ?_ (by first | omega | (simp <;> omega)) _))) (hb_x2.mono (by first | omega | (simp <;> omega)))
        clear hb_x2 c_x2_wr_0 f_x2_wr_0
        try clear c_x1_wr_0_0
        try clear f_x1_wr_0_0
        try clear c_x1_wr_0_1
        try clear f_x1_wr_0_1
        try clear far_x1_wr_0
        try clear hB_x1
        have far_x2_wr_0 := far (show wr.heap.size < x2.heap.size by omega)
        go_wp2_with fail
        refine Calls.mono (pSame_true (CA ++ CB) _ _ _ (RC.out.below (hBr.trans (hB_x2.mono hz))) (RY.out.below (hBr.trans (hB_x2.mono hz)))) ?_
        rintro e x3 ⟨rfl, hb_x3⟩
        have hz_x3 := hb_x3.size
        try simp at hz_x3
        obtain ⟨c_x3_wr_0, f_x3_wr_0⟩ := bk hb_x3 (wr.heap.size) (by first | omega | (simp <;> omega))
        have c_x3_wr_0_0 := c_x3_wr_0 0
        conv at c_x3_wr_0_0 => rhs; simp [go_sem, *]
        have f_x3_wr_0_0 := f_x3_wr_0 0
        conv at f_x3_wr_0_0 => rhs; simp [go_sem, *]
        have c_x3_wr_0_1 := c_x3_wr_0 1
        conv at c_x3_wr_0_1 => rhs; simp [go_sem, *]
        have f_x3_wr_0_1 := f_x3_wr_0 1
        conv at f_x3_wr_0_1 => rhs; simp [go_sem, *]
        have HH_x3 := Lib.hid hb_x3
        have hB_x3 : Below wr.heap.size wr x3 := Below.trans (by (repeat (first | (with_reducible exact Below.refl _ _) | (with_reducible assumption) | (with_reducible refine Below.drew ?_) | (focus ((with_reducible refine Below.setCell ?_ ?_ _); rotate_left; (first | omega | (simp <;> omega)))) | (focus ((with_reducible refine Below.alloc ?_ ?_ _); rotate_left; (first | omega | (simp <;> omega)))) | exact Below.refl _ _ | assumption | refine Below.drew ?_ | refine Below.alloc ?_ (by first | omega | (simp <;> omega)) _ | refine Below.setCell ?_ (by first | omega | (simp <;> omega)) _))) (hb_x3.mono (by first | omega | (simp <;> omega)))
        clear hb_x3 c_x3_wr_0 f_x3_wr_0
        try clear c_x2_wr_0_0
        try clear f_x2_wr_0_0
        try clear c_x2_wr_0_1
        try clear f_x2_wr_0_1
        try clear far_x2_wr_0
        try clear hB_x2
        have far_x3_wr_0 := far (show wr.heap.size < x3.heap.size by omega)
        go_wp2
        go_ret
        exact ⟨ret_bool (by simp), HBr.out.trans (hB_x3.mono hzr)⟩
      | false =>
        have HNN := Lib.hid (HNO.out rfl)
        clear HF HN HNO HYES
        go_wp2
        go_roundw
        case rel => exact ⟨i + 1, by go_num, by omega, HNN.out, by (repeat (first | (with_reducible exact Below.refl _ _) | (with_reducible assumption) | (with_reducible refine Below.drew ?_) | (focus ((with_reducible refine Below.setCell ?_ ?_ _); rotate_left; (first | omega | (simp <;> omega)))) | (focus ((with_reducible refine Below.alloc ?_ ?_ _); rotate_left; (first | omega | (simp <;> omega)))) | exact Below.refl _ _ | assumption | refine Below.drew ?_ | refine Below.alloc ?_ (by first | omega | (simp <;> omega)) _ | refine Below.setCell ?_ (by first | omega | (simp <;> omega)) _))⟩
        case measure => simp [intOf]; omega
    · obtain rfl : i = X.length := by omega
      have hr := HN.out (fun j hj => HA.out j hj hj)
      injection hr with r1 r2
      subst r1 r2
      clear HF HN
      go_wp2_with fail
      refine Calls.mono (AL.out _ (HM.out _ HBr.out)) ?_
      rintro e x1 ⟨rfl, hb_x1⟩
      have hz_x1 := hb_x1.size
      try simp at hz_x1
      have HH_x1 := Lib.hid hb_x1
      have hB_x1 : Below wr.heap.size wr x1 := Below.trans (by (repeat (first | (with_reducible exact Below.refl _ _) | (with_reducible assumption) | (with_reducible refine Below.drew ?_) | (focus ((with_reducible refine Below.setCell ?_ ?_ _); rotate_left; (first | omega | (simp <;> omega)))) | (focus ((with_reducible refine Below.alloc ?_ ?_ _); rotate_left; (first | omega | (simp <;> omega)))) | exact Below.refl _ _ | assumption | refine Below.drew ?_ | refine Below.alloc ?_ (by first | omega | (simp <;> omega)) _ | refine Below.setCell ?_ (by first | omega | (simp <;> omega)) _))) (hb_x1.mono (by first | omega | (simp <;> omega)))
      clear hb_x1
      try clear c_x3_wr_0_0
      try clear f_x3_wr_0_0
      try clear c_x3_wr_0_1
      try clear f_x3_wr_0_1
      try clear far_x3_wr_0
      try clear hB_x3
      go_wp2_with fail
      refine Calls.mono (pSame_true X _ _ _ (RQ.out.below (hBr.trans (hB_x1.mono hz))) (RX.out.below (hBr.trans (hB_x1.mono hz)))) ?_
      rintro e x2 ⟨rfl, hb_x2⟩
      have hz_x2 := hb_x2.size
      try simp at hz_x2
      have HH_x2 := Lib.hid hb_x2
      have hB_x2 : Below wr.heap.size wr x2 := Below.trans (by (repeat (first | (with_reducible exact Below.refl _ _) | (with_reducible assumption) | (with_reducible refine Below.drew ?_) | (focus ((with_reducible refine Below.setCell ?_ ?_ _); rotate_left; (first | omega | (simp <;> omega)))) | (focus ((with_reducible refine Below.alloc ?_ ?_ _); rotate_left; (first | omega | (simp <;> omega)))) | exact Below.refl _ _ | assumption | refine Below.drew ?_ | refine Below.alloc ?_ (by first | omega | (simp <;> omega)) _ | refine Below.setCell ?_ (by first | omega | (simp <;> omega)) _))) (hb_x2.mono (by first | omega | (simp <;> omega)))
      clear hb_x2
      try clear hB_x1
      go_wp2_with fail
      refine Calls.mono (pSame_true (CA ++ CB) _ _ _ (RC.out.below (hBr.trans (hB_x2.mono hz))) (RY.out.below (hBr.trans (hB_x2.mono hz)))) ?_
      rintro e x3 ⟨rfl, hb_x3⟩
      have hz_x3 := hb_x3.size
      try simp at hz_x3
      have HH_x3 := Lib.hid hb_x3
      have hB_x3 : Below wr.heap.size wr x3 := Below.trans (by (repeat (first | (with_reducible exact Below.refl _ _) | (with_reducible assumption) | (with_reducible refine Below.drew ?_) | (focus ((with_reducible refine Below.setCell ?_ ?_ _); rotate_left; (first | omega | (simp <;> omega)))) | (focus ((with_reducible refine Below.alloc ?_ ?_ _); rotate_left; (first | omega | (simp <;> omega)))) | exact Below.refl _ _ | assumption | refine Below.drew ?_ | refine Below.alloc ?_ (by first | omega | (simp <;> omega)) _ | refine Below.setCell ?_ (by first | omega | (simp <;> omega)) _))) (hb_x3.mono (by first | omega | (simp <;> omega)))
      clear hb_x3
      try clear hB_x2
      go_wp2
      go_ret
      exact ⟨ret_bool (by simp), HBr.out.trans (hB_x3.mono hzr)⟩
end Go.Proofs.YtpapefegfghakaaDoor
