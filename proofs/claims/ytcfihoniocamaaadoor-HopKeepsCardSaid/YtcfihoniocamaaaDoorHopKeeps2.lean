/- The law HopKeeps: its walk. -/
import Derived.Test.YtcfihoniocamaaaDoorHopKeeps
import Derived.Deep.DeepCutAuto
namespace Go.Proofs.YtcfihoniocamaaaDoor
open Go.RowKit Go.Sort Go.Shelf
set_option linter.unusedVariables false

theorem snoc_hop {L : List Fld} (h : L.length ≤ 49) (hL : HopRow L) {f : Fld} (hf : f.1.length ≤ 1000 ∧ f.2.length ≤ 1010) : HopRow (L ++ [f]) := ⟨by rw [List.length_append]; simp; omega, fun g hg => by
  rcases List.mem_append.1 hg with hg | hg
  · exact hL.each g hg
  · obtain rfl := List.mem_singleton.1 hg
    exact hf⟩
theorem remove_hop {L : List Fld} (h : HopRow L) (m : List UInt8) : HopRow (removeL L m) := ⟨Nat.le_trans (List.length_filter_le _ _) h.len, fun f hf => h.each f (List.mem_filter.1 hf).1⟩

set_option maxHeartbeats 3200000 in
set_option maxRecDepth 100000 in
theorem hopKeeps_any (a b : ByteArray) (c : Int) (d : ByteArray) (m : Int) (v : Value) (L : List (List Value)) (w : World) (k1 : a.size ≤ maxLen) (k2 : b.size ≤ maxLen) (k3 : (Lit.int .i64 c).wf) (k4 : d.size ≤ maxLen) (k5 : (Lit.int .i64 m).wf)
    (hv : RowsIn w 2 v L ∧ ∀ c ∈ L, AllSh [.str, .str] c) (_hL : True) (hM : ∃ m, w.cell? ⟨0, 0, none⟩ = some (.int .i64 m)) :
    Calls Tryd.prog 4 #[.agg #[.string a, .string b, .int .i64 c, .string d, .int .i64 m], v] w fun e w' => e = .returned (.bool true) ∧ Below w.heap.size w w' := by
  obtain ⟨xs, hr0, hxl⟩ := reads_inF hv
  have C0 := Lib.hid (fun W (hb : Below w.heap.size w W) => few v xs W (hr0.below hb) hxl)
  have HM := Lib.hid (fun W hb => mlen_later hM W hb)
  have AL := Lib.hid (fun W h => hop_alive W h)
  have hT := few_hop xs
  have hTl := fewL_len xs
  obtain ⟨T, hTe⟩ : ∃ T, fewL xs = T := ⟨_, rfl⟩
  rw [hTe] at C0 hT hTl
  have H1 : HopRow (T ++ [(connL, [120, 44, 32, 67, 76, 79, 83, 69])]) := snoc_hop (by omega) hT ⟨by decide, by decide⟩
  have H2 : HopRow (T ++ [([67, 111, 110, 110, 101, 99, 116, 105, 111, 110], [75, 101, 101, 112, 45, 65, 108, 105, 118, 101])]) := snoc_hop (by omega) hT ⟨by decide, by decide⟩
  have KC := Lib.hid (fun u W hr hm => hopKeeps_c a b c d m u _ W hr H1 hm)
  have KK := Lib.hid (fun u W hr hm => hopKeeps_c a b c d m u _ W hr H2 hm)
  have KW := Lib.hid (fun u W hr hm => hopKeeps_c a b c d m u _ W hr (remove_hop hT connL) hm)
  have KL := Lib.hid (fun u W hr hm => hopKeeps_c (S []) (S []) 0 (S []) 1 u _ W hr hT hm)
  rw [keeps_closed] at KC
  rw [keeps_kept] at KK
  rw [keeps_without] at KW
  have RM := Lib.hid (fun u W hr => refRemove u T connL (by decide) W hr hT.small (by omega))
  unfold startV at KC KK KW KL
  unfold connL at KC RM
  obtain ⟨R, hR⟩ : ∃ R, keepsW 1 (hopWords T) = R := ⟨_, rfl⟩
  rw [hR] at KK KL
  obtain ⟨M, hM2⟩ : ∃ M, (m == 1) = M := ⟨_, rfl⟩
  rw [show decide (m = 1) = M by rw [← hM2]; rfl] at KW
  have hTi : (T.length : Int) ≤ 45 := by omega
  clear hr0 hxl hv hM hTe H1 H2 hT hR k1 k2 k3 k4 k5
  go_enter Tryd.func4, Tryd.ntmps4
  go_wp2_with fail
  refine Calls.mono (C0.out _ (by (repeat (first | (with_reducible exact Below.refl _ _) | (with_reducible assumption) | (with_reducible refine Below.drew ?_) | (focus ((with_reducible refine Below.setCell ?_ ?_ _); rotate_left; (first | omega | (simp <;> omega)))) | (focus ((with_reducible refine Below.alloc ?_ ?_ _); rotate_left; (first | omega | (simp <;> omega)))) | exact Below.refl _ _ | assumption | refine Below.drew ?_ | refine Below.alloc ?_ (by first | omega | (simp <;> omega)) _ | refine Below.setCell ?_ (by first | omega | (simp <;> omega)) _)))) ?_
  rintro e w1 ⟨v1, rfl, hr1, hb_w1⟩
  have hz_w1 := hb_w1.size
  try simp at hz_w1
  obtain ⟨c_w1_w_0, f_w1_w_0⟩ := bk hb_w1 (w.heap.size) (by first | omega | (simp <;> omega))
  have c_w1_w_0_0 := c_w1_w_0 0
  conv at c_w1_w_0_0 => rhs; simp [go_sem, *]
  have f_w1_w_0_0 := f_w1_w_0 0
  conv at f_w1_w_0_0 => rhs; simp [go_sem, *]
  have c_w1_w_0_1 := c_w1_w_0 1
  conv at c_w1_w_0_1 => rhs; simp [go_sem, *]
  have f_w1_w_0_1 := f_w1_w_0 1
  conv at f_w1_w_0_1 => rhs; simp [go_sem, *]
  have c_w1_w_0_2 := c_w1_w_0 2
  conv at c_w1_w_0_2 => rhs; simp [go_sem, *]
  have f_w1_w_0_2 := f_w1_w_0 2
  conv at f_w1_w_0_2 => rhs; simp [go_sem, *]
  have c_w1_w_0_3 := c_w1_w_0 3
  conv at c_w1_w_0_3 => rhs; simp [go_sem, *]
  have f_w1_w_0_3 := f_w1_w_0 3
  conv at f_w1_w_0_3 => rhs; simp [go_sem, *]
  have c_w1_w_0_4 := c_w1_w_0 4
  conv at c_w1_w_0_4 => rhs; simp [go_sem, *]
  have f_w1_w_0_4 := f_w1_w_0 4
  conv at f_w1_w_0_4 => rhs; simp [go_sem, *]
  have HH_w1 := Lib.hid hb_w1
  have hB_w1 : Below w.heap.size w w1 := Below.trans (by (repeat (first | (with_reducible exact Below.refl _ _) | (with_reducible assumption) | (with_reducible refine Below.drew ?_) | (focus ((with_reducible refine Below.setCell ?_ ?_ _); rotate_left; (first | omega | (simp <;> omega)))) | (focus ((with_reducible refine Below.alloc ?_ ?_ _); rotate_left; (first | omega | (simp <;> omega)))) | exact Below.refl _ _ | assumption | refine Below.drew ?_ | refine Below.alloc ?_ (by first | omega | (simp <;> omega)) _ | refine Below.setCell ?_ (by first | omega | (simp <;> omega)) _))) (hb_w1.mono (by first | omega | (simp <;> omega)))
  clear hb_w1 c_w1_w_0 f_w1_w_0
  have far_w1_w_0 := far (show w.heap.size < w1.heap.size by omega)
  have R1 := Lib.hid hr1
  obtain ⟨ao1, cap1, rfl, hc1, hc2, _, _⟩ := hr1
  have hmx : maxLen = 9223372036854775807 := rfl
  rw [hmx] at hc2
  clear hmx
  go_wp2_with (first
    | (at_builtin; refine wp_append_row rfl _ _ rfl _ w1.heap.size _ [] (OwnsF.made w1 w1.heap.size (Nat.le_refl _)) rfl ao1 cap1 T (R1.out.below (show Below w1.heap.size w1 _ by (repeat (first | (with_reducible exact Below.refl _ _) | (with_reducible assumption) | (with_reducible refine Below.drew ?_) | (focus ((with_reducible refine Below.setCell ?_ ?_ _); rotate_left; (first | omega | (simp <;> omega)))) | (focus ((with_reducible refine Below.alloc ?_ ?_ _); rotate_left; (first | omega | (simp <;> omega)))) | exact Below.refl _ _ | assumption | refine Below.drew ?_ | refine Below.alloc ?_ (by first | omega | (simp <;> omega)) _ | refine Below.setCell ?_ (by first | omega | (simp <;> omega)) _)))) rfl (by simp; omega) (by simp) ?_; intro v2 w2 hown2 hb2; have O2 := Lib.hid (show OwnsF w2 w1.heap.size v2 T from hown2); have B2 := Lib.hid (Below.trans (show Below w1.heap.size w1 _ by (repeat (first | (with_reducible exact Below.refl _ _) | (with_reducible assumption) | (with_reducible refine Below.drew ?_) | (focus ((with_reducible refine Below.setCell ?_ ?_ _); rotate_left; (first | omega | (simp <;> omega)))) | (focus ((with_reducible refine Below.alloc ?_ ?_ _); rotate_left; (first | omega | (simp <;> omega)))) | exact Below.refl _ _ | assumption | refine Below.drew ?_ | refine Below.alloc ?_ (by first | omega | (simp <;> omega)) _ | refine Below.setCell ?_ (by first | omega | (simp <;> omega)) _))) hb2); have hz2 := B2.out.size; clear hown2 hb2)
    | (at_builtin; refine wp_append_fld rfl _ _ rfl _ w1.heap.size _ T ([99, 111, 110, 110, 101, 99, 116, 105, 111, 110], [120, 44, 32, 67, 76, 79, 83, 69]) O2.out rfl _ rfl rfl (by omega) hz2 ?_; intro v3 w3 hown3 hb3 hg3; have O3 := Lib.hid hown3.reads; have B3 := Lib.hid (B2.out.trans hb3); have hz3 := B3.out.size; clear hown3 hb3 hg3)
    | (at_builtin; refine wp_append_row rfl _ _ rfl _ w3.heap.size _ [] (OwnsF.made w3 w3.heap.size (Nat.le_refl _)) rfl ao1 cap1 T (R1.out.below (Below.trans B3.out (Below.mono (show Below w3.heap.size w3 _ by (repeat (first | (with_reducible exact Below.refl _ _) | (with_reducible assumption) | (with_reducible refine Below.drew ?_) | (focus ((with_reducible refine Below.setCell ?_ ?_ _); rotate_left; (first | omega | (simp <;> omega)))) | (focus ((with_reducible refine Below.alloc ?_ ?_ _); rotate_left; (first | omega | (simp <;> omega)))) | exact Below.refl _ _ | assumption | refine Below.drew ?_ | refine Below.alloc ?_ (by first | omega | (simp <;> omega)) _ | refine Below.setCell ?_ (by first | omega | (simp <;> omega)) _))) hz3))) rfl (by simp; omega) (by simp) ?_; intro v4 w4 hown4 hb4; have O4 := Lib.hid (show OwnsF w4 w3.heap.size v4 T from hown4); have B4 := Lib.hid (Below.trans (show Below w3.heap.size w3 _ by (repeat (first | (with_reducible exact Below.refl _ _) | (with_reducible assumption) | (with_reducible refine Below.drew ?_) | (focus ((with_reducible refine Below.setCell ?_ ?_ _); rotate_left; (first | omega | (simp <;> omega)))) | (focus ((with_reducible refine Below.alloc ?_ ?_ _); rotate_left; (first | omega | (simp <;> omega)))) | exact Below.refl _ _ | assumption | refine Below.drew ?_ | refine Below.alloc ?_ (by first | omega | (simp <;> omega)) _ | refine Below.setCell ?_ (by first | omega | (simp <;> omega)) _))) hb4); have hz4 := B4.out.size; clear hown4 hb4)
    | (at_builtin; refine wp_append_fld rfl _ _ rfl _ w3.heap.size _ T ([67, 111, 110, 110, 101, 99, 116, 105, 111, 110], [75, 101, 101, 112, 45, 65, 108, 105, 118, 101]) O4.out rfl _ rfl rfl (by omega) hz4 ?_; intro v5 w5 hown5 hb5 hg5; have O5 := Lib.hid hown5.reads; have B5 := Lib.hid (B4.out.trans hb5); have hz5 := B5.out.size; clear hown5 hb5 hg5)
    | (go_at_call 14; refine Calls.mono (RM.out _ _ (R1.out.below (B3.out.trans (B5.out.mono hz3)))) ?_; rintro e w6 ⟨v6, rfl, ho6, hb6⟩; have O6 := Lib.hid ho6.reads; have B6 := Lib.hid hb6; have hz6 := hb6.size; clear ho6 hb6)
    | fail)
  have hb_w6 : Below w1.heap.size w1 w6 := (B3.out.trans ((B5.out.trans (B6.out.mono hz5)).mono hz3))
  have R16 := Lib.hid (R1.out.below hb_w6)
  have R36 := Lib.hid (O3.out.below (B5.out.trans (B6.out.mono hz5)))
  have R56 := Lib.hid (O5.out.below B6.out)
  have hz_w6 := hb_w6.size
  try simp at hz_w6
  obtain ⟨c_w6_w_0, f_w6_w_0⟩ := bk hb_w6 (w.heap.size) (by first | omega | (simp <;> omega))
  have c_w6_w_0_0 := c_w6_w_0 0
  conv at c_w6_w_0_0 => rhs; simp [go_sem, *]
  have f_w6_w_0_0 := f_w6_w_0 0
  conv at f_w6_w_0_0 => rhs; simp [go_sem, *]
  have c_w6_w_0_1 := c_w6_w_0 1
  conv at c_w6_w_0_1 => rhs; simp [go_sem, *]
  have f_w6_w_0_1 := f_w6_w_0 1
  conv at f_w6_w_0_1 => rhs; simp [go_sem, *]
  have c_w6_w_0_2 := c_w6_w_0 2
  conv at c_w6_w_0_2 => rhs; simp [go_sem, *]
  have f_w6_w_0_2 := f_w6_w_0 2
  conv at f_w6_w_0_2 => rhs; simp [go_sem, *]
  have c_w6_w_0_3 := c_w6_w_0 3
  conv at c_w6_w_0_3 => rhs; simp [go_sem, *]
  have f_w6_w_0_3 := f_w6_w_0 3
  conv at f_w6_w_0_3 => rhs; simp [go_sem, *]
  have c_w6_w_0_4 := c_w6_w_0 4
  conv at c_w6_w_0_4 => rhs; simp [go_sem, *]
  have f_w6_w_0_4 := f_w6_w_0 4
  conv at f_w6_w_0_4 => rhs; simp [go_sem, *]
  have HH_w6 := Lib.hid hb_w6
  have hB_w6 : Below w.heap.size w w6 := Below.trans (by (repeat (first | (with_reducible exact Below.refl _ _) | (with_reducible assumption) | (with_reducible refine Below.drew ?_) | (focus ((with_reducible refine Below.setCell ?_ ?_ _); rotate_left; (first | omega | (simp <;> omega)))) | (focus ((with_reducible refine Below.alloc ?_ ?_ _); rotate_left; (first | omega | (simp <;> omega)))) | exact Below.refl _ _ | assumption | refine Below.drew ?_ | refine Below.alloc ?_ (by first | omega | (simp <;> omega)) _ | refine Below.setCell ?_ (by first | omega | (simp <;> omega)) _))) (hb_w6.mono (by first | omega | (simp <;> omega)))
  clear hb_w6 c_w6_w_0 f_w6_w_0
  try clear c_w1_w_0_0
  try clear f_w1_w_0_0
  try clear c_w1_w_0_1
  try clear f_w1_w_0_1
  try clear c_w1_w_0_2
  try clear f_w1_w_0_2
  try clear c_w1_w_0_3
  try clear f_w1_w_0_3
  try clear c_w1_w_0_4
  try clear f_w1_w_0_4
  try clear far_w1_w_0
  try clear hB_w1
  have far_w6_w_0 := far (show w.heap.size < w6.heap.size by omega)
  have K1 := Lib.hid (fun (p : Later w6.heap.size w6) => KC.out _ p.w (R36.out.below p.b) (HM.out _ (hB_w6.trans (p.b.mono (by omega)))))
  have K2 := Lib.hid (fun (p : Later w6.heap.size w6) => KW.out _ p.w (O6.out.below p.b) (HM.out _ (hB_w6.trans (p.b.mono (by omega)))))
  have K3 := Lib.hid (fun (p : Later w6.heap.size w6) => KK.out _ p.w (R56.out.below p.b) (HM.out _ (hB_w6.trans (p.b.mono (by omega)))))
  have K4 := Lib.hid (fun (p : Later w6.heap.size w6) => KL.out _ p.w (R16.out.below p.b) (HM.out _ (hB_w6.trans (p.b.mono (by omega)))))
  have KA := Lib.hid (fun (p : Later w6.heap.size w6) => AL.out p.w (HM.out _ (hB_w6.trans (p.b.mono (by omega)))))
  clear KC KW KK KL AL
  cases M <;> cases R
  all_goals
    go_wp2_with fail
    refine wp_region_later (w6.heap.size) (by kernel_rfl) (by kernel_rfl) ?_
    have l_w7_w_0 := @Later.at (w6.heap.size) (w.heap.size) (by omega)
    repeat (go_big_quiet_step (first | (go_at_call 10; with_reducible exact later_of (Nat.le_refl _) (KA.out _)) | (go_at_call 15; with_reducible exact later_of (Nat.le_refl _) (K1.out _)) | (go_at_call 15; with_reducible exact later_of (Nat.le_refl _) (K2.out _)) | (go_at_call 15; with_reducible exact later_of (Nat.le_refl _) (K3.out _)) | (go_at_call 15; with_reducible exact later_of (Nat.le_refl _) (K4.out _))))
    refine wpQuiet_nil ?_
    rintro w7 ⟨⟨_, hb_w7⟩, rfl⟩
    clear l_w7_w_0
    try simp only [] at hb_w7 ⊢
    have hz_w7 := hb_w7.size
    try simp at hz_w7
    have c_w7_w_0 := fun o => hb_w7.cell (p := ⟨w.heap.size, o, none⟩) (by first | omega | (simp <;> omega))
    have f_w7_w_0 := fun o => hb_w7.frozen (p := ⟨w.heap.size, o, none⟩) (by first | omega | (simp <;> omega))
    have c_w7_w_0_0 := c_w7_w_0 0
    conv at c_w7_w_0_0 => rhs; simp [go_sem, *]
    have f_w7_w_0_0 := f_w7_w_0 0
    conv at f_w7_w_0_0 => rhs; simp [go_sem, *]
    have c_w7_w_0_1 := c_w7_w_0 1
    conv at c_w7_w_0_1 => rhs; simp [go_sem, *]
    have f_w7_w_0_1 := f_w7_w_0 1
    conv at f_w7_w_0_1 => rhs; simp [go_sem, *]
    have c_w7_w_0_2 := c_w7_w_0 2
    conv at c_w7_w_0_2 => rhs; simp [go_sem, *]
    have f_w7_w_0_2 := f_w7_w_0 2
    conv at f_w7_w_0_2 => rhs; simp [go_sem, *]
    have c_w7_w_0_3 := c_w7_w_0 3
    conv at c_w7_w_0_3 => rhs; simp [go_sem, *]
    have f_w7_w_0_3 := f_w7_w_0 3
    conv at f_w7_w_0_3 => rhs; simp [go_sem, *]
    have c_w7_w_0_4 := c_w7_w_0 4
    conv at c_w7_w_0_4 => rhs; simp [go_sem, *]
    have f_w7_w_0_4 := f_w7_w_0 4
    conv at f_w7_w_0_4 => rhs; simp [go_sem, *]
    have HH_w7 := Lib.hid hb_w7
    have hB_w7 : Below w.heap.size w w7 := Below.trans (by (repeat (first | (with_reducible exact Below.refl _ _) | (with_reducible assumption) | (with_reducible refine Below.drew ?_) | (focus ((with_reducible refine Below.setCell ?_ ?_ _); rotate_left; (first | omega | (simp <;> omega)))) | (focus ((with_reducible refine Below.alloc ?_ ?_ _); rotate_left; (first | omega | (simp <;> omega)))) | exact Below.refl _ _ | assumption | refine Below.drew ?_ | refine Below.alloc ?_ (by first | omega | (simp <;> omega)) _ | refine Below.setCell ?_ (by first | omega | (simp <;> omega)) _))) (hb_w7.mono (by first | omega | (simp <;> omega)))
    clear hb_w7 c_w7_w_0 f_w7_w_0
    try clear c_w6_w_0_0
    try clear f_w6_w_0_0
    try clear c_w6_w_0_1
    try clear f_w6_w_0_1
    try clear c_w6_w_0_2
    try clear f_w6_w_0_2
    try clear c_w6_w_0_3
    try clear f_w6_w_0_3
    try clear c_w6_w_0_4
    try clear f_w6_w_0_4
    try clear far_w6_w_0
    try clear hB_w6
    have far_w7_w_0 := far (show w.heap.size < w7.heap.size by omega)
    go_wp2
    go_ret
    exact ⟨ret_bool (by simp), hB_w7⟩
end Go.Proofs.YtcfihoniocamaaaDoor
