/- table.may and the document's May: the walks. The document's May: the walk. -/
import Derived.Test.YtcfihoniocamaaaGreatDoorPk8
namespace Go.Proofs.YtcfihoniocamaaaGreatDoor
open Go.RowKit Go.Sort Go.Shelf
set_option linter.unusedVariables false

/-- The value of a field. -/
def fv (f : Fld) : Value := .agg #[.string (S f.1), .string (S f.2)]

set_option maxHeartbeats 3200000 in
set_option maxRecDepth 100000 in
theorem tableMay (n v : List UInt8) (h1 : n.length ≤ 4611686018427387903) (h2 : v.length ≤ 4611686018427387903) (w : World) :
    Calls Tryz.prog 64 #[fv (n, v)] w fun e w' => e = .returned (.bool (mayL (n, v))) ∧ Below w.heap.size w w' := by
  have C1 := Lib.hid (fun W => textToken n (by omega) W)
  have C2 := Lib.hid (fun W => textTrim v (by omega) W)
  have e : mayL (n, v) = (tokenL n && (trim v == v) && decide (v.length ≤ 1000) && !v.any ctlB) := rfl
  rw [e]
  obtain ⟨a, ha⟩ : ∃ a, tokenL n = a := ⟨_, rfl⟩
  obtain ⟨tv, htv⟩ : ∃ tv, trim v = tv := ⟨_, rfl⟩
  rw [ha] at C1 ⊢
  rw [htv] at C2 ⊢
  clear e ha htv
  unfold fv
  cases a with
  | false =>
    go_enter Tryz.func64, Tryz.ntmps64
    go_wp2_with fail
    refine wp_region_later (w.heap.size + 1) (by kernel_rfl) (by kernel_rfl) ?_
    have l_w1_w_0 := @Later.at (w.heap.size + 1) (w.heap.size) (by omega)
    repeat (go_big_quiet_step (first | (go_at_call 42; refine later_of (by (first | omega | (simp <;> omega))) (C1.out _)) | (go_at_call 44; refine later_of (by (first | omega | (simp <;> omega))) (C2.out _))))
    refine wpQuiet_nil ?_
    rintro w1 ⟨⟨_, hb_w1⟩, rfl⟩
    clear l_w1_w_0
    try simp only [] at hb_w1 ⊢
    have hz_w1 := hb_w1.size
    try simp at hz_w1
    have c_w1_w_0 := fun o => hb_w1.cell (p := ⟨w.heap.size, o, none⟩) (by first | omega | (simp <;> omega))
    have f_w1_w_0 := fun o => hb_w1.frozen (p := ⟨w.heap.size, o, none⟩) (by first | omega | (simp <;> omega))
    have c_w1_w_0_0 := c_w1_w_0 0
    conv at c_w1_w_0_0 => rhs; simp [go_sem, *]
    have f_w1_w_0_0 := f_w1_w_0 0
    conv at f_w1_w_0_0 => rhs; simp [go_sem, *]
    have HH_w1 := Lib.hid hb_w1
    have hB_w1 : Below w.heap.size w w1 := Below.trans (by (repeat (first | (with_reducible exact Below.refl _ _) | (with_reducible assumption) | (with_reducible refine Below.drew ?_) | (focus ((with_reducible refine Below.setCell ?_ ?_ _); rotate_left; (first | omega | (simp <;> omega)))) | (focus ((with_reducible refine Below.alloc ?_ ?_ _); rotate_left; (first | omega | (simp <;> omega)))) | exact Below.refl _ _ | assumption | refine Below.drew ?_ | refine Below.alloc ?_ (by first | omega | (simp <;> omega)) _ | refine Below.setCell ?_ (by first | omega | (simp <;> omega)) _))) (hb_w1.mono (by first | omega | (simp <;> omega)))
    clear hb_w1 c_w1_w_0 f_w1_w_0
    have far_w1_w_0 := far (show w.heap.size < w1.heap.size by omega)
    go_wp2
    go_ret
    exact ⟨by simp, by (repeat (first | (with_reducible exact Below.refl _ _) | (with_reducible assumption) | (with_reducible refine Below.drew ?_) | (focus ((with_reducible refine Below.setCell ?_ ?_ _); rotate_left; (first | omega | (simp <;> omega)))) | (focus ((with_reducible refine Below.alloc ?_ ?_ _); rotate_left; (first | omega | (simp <;> omega)))) | exact Below.refl _ _ | assumption | refine Below.drew ?_ | refine Below.alloc ?_ (by first | omega | (simp <;> omega)) _ | refine Below.setCell ?_ (by first | omega | (simp <;> omega)) _))⟩
  | true =>
    obtain ⟨b, hb⟩ : ∃ b, (tv == v) = b := ⟨_, rfl⟩
    rw [hb]
    cases b with
    | false =>
      go_enter Tryz.func64, Tryz.ntmps64
      go_wp2_with fail
      refine wp_region_later (w.heap.size + 1) (by kernel_rfl) (by kernel_rfl) ?_
      have l_w1_w_0 := @Later.at (w.heap.size + 1) (w.heap.size) (by omega)
      repeat (go_big_quiet_step (first | (go_at_call 42; refine later_of (by (first | omega | (simp <;> omega))) (C1.out _)) | (go_at_call 44; refine later_of (by (first | omega | (simp <;> omega))) (C2.out _))))
      refine wpQuiet_nil ?_
      rintro w1 ⟨⟨_, hb_w1⟩, rfl⟩
      clear l_w1_w_0
      try simp only [] at hb_w1 ⊢
      have hz_w1 := hb_w1.size
      try simp at hz_w1
      have c_w1_w_0 := fun o => hb_w1.cell (p := ⟨w.heap.size, o, none⟩) (by first | omega | (simp <;> omega))
      have f_w1_w_0 := fun o => hb_w1.frozen (p := ⟨w.heap.size, o, none⟩) (by first | omega | (simp <;> omega))
      have c_w1_w_0_0 := c_w1_w_0 0
      conv at c_w1_w_0_0 => rhs; simp [go_sem, *]
      have f_w1_w_0_0 := f_w1_w_0 0
      conv at f_w1_w_0_0 => rhs; simp [go_sem, *]
      have HH_w1 := Lib.hid hb_w1
      have hB_w1 : Below w.heap.size w w1 := Below.trans (by (repeat (first | (with_reducible exact Below.refl _ _) | (with_reducible assumption) | (with_reducible refine Below.drew ?_) | (focus ((with_reducible refine Below.setCell ?_ ?_ _); rotate_left; (first | omega | (simp <;> omega)))) | (focus ((with_reducible refine Below.alloc ?_ ?_ _); rotate_left; (first | omega | (simp <;> omega)))) | exact Below.refl _ _ | assumption | refine Below.drew ?_ | refine Below.alloc ?_ (by first | omega | (simp <;> omega)) _ | refine Below.setCell ?_ (by first | omega | (simp <;> omega)) _))) (hb_w1.mono (by first | omega | (simp <;> omega)))
      clear hb_w1 c_w1_w_0 f_w1_w_0
      have far_w1_w_0 := far (show w.heap.size < w1.heap.size by omega)
      go_wp2
      go_ret
      exact ⟨by simp, by (repeat (first | (with_reducible exact Below.refl _ _) | (with_reducible assumption) | (with_reducible refine Below.drew ?_) | (focus ((with_reducible refine Below.setCell ?_ ?_ _); rotate_left; (first | omega | (simp <;> omega)))) | (focus ((with_reducible refine Below.alloc ?_ ?_ _); rotate_left; (first | omega | (simp <;> omega)))) | exact Below.refl _ _ | assumption | refine Below.drew ?_ | refine Below.alloc ?_ (by first | omega | (simp <;> omega)) _ | refine Below.setCell ?_ (by first | omega | (simp <;> omega)) _))⟩
    | true =>
      by_cases hlen : v.length ≤ 1000
      · obtain rfl : tv = v := by simpa using hb
        obtain ⟨d, hd⟩ : ∃ d, tv.any ctlB = d := ⟨_, rfl⟩
        rw [hd]
        have HD := Lib.hid hd
        have hlen2 : (tv.length : Int) ≤ 1000 := by omega
        have hlen3 : decide ((tv.length : Int) ≤ 1000) = true := by simp; omega
        have hcv := fun w => run_bytes_of_string (P := Tryz.prog) w 9 78 5 (S tv) Tryz.underlying9 Tryz.underlying78 Tryz.underlying5
        have HX := Lib.hid (fun W => idxBytes W.heap.size _ tv (grownCap_ge W tv.length 0 5) (grownCap_le_maxLen W tv.length 0 5 (by unfold maxLen; omega)) _ (fun j h => (bytes_laid W tv _ 5 (grownCap_ge W tv.length 0 5) j h).1))
        rw [hd] at HX
        have HF := Lib.hid (show (true && true && decide (tv.length ≤ 1000) && !d) = !d by simp [hlen])
        clear hb hd
        go_enter Tryz.func64, Tryz.ntmps64
        go_wp2_with fail
        go_region_with (first
          | (go_at_call 42; refine (C1.out _).mono ?_; rintro e w1 ⟨rfl, hb⟩; obtain ⟨hcc, hff⟩ := bk hb w.heap.size (by simp); have hz := hb.size; simp at hz; have hbw := Below.trans (show Below w.heap.size w _ by (repeat (first | (with_reducible exact Below.refl _ _) | (with_reducible assumption) | (with_reducible refine Below.drew ?_) | (focus ((with_reducible refine Below.setCell ?_ ?_ _); rotate_left; (first | omega | (simp <;> omega)))) | (focus ((with_reducible refine Below.alloc ?_ ?_ _); rotate_left; (first | omega | (simp <;> omega)))) | exact Below.refl _ _ | assumption | refine Below.drew ?_ | refine Below.alloc ?_ (by first | omega | (simp <;> omega)) _ | refine Below.setCell ?_ (by first | omega | (simp <;> omega)) _))) (hb.mono (by (first | omega | (simp <;> omega)))))
          | (go_at_call 44; refine (C2.out _).mono ?_; rintro e w2 ⟨rfl, hb2⟩; have hbw2 := Below.trans (show Below w.heap.size w _ by (repeat (first | (with_reducible exact Below.refl _ _) | (with_reducible assumption) | (with_reducible refine Below.drew ?_) | (focus ((with_reducible refine Below.setCell ?_ ?_ _); rotate_left; (first | omega | (simp <;> omega)))) | (focus ((with_reducible refine Below.alloc ?_ ?_ _); rotate_left; (first | omega | (simp <;> omega)))) | exact Below.refl _ _ | assumption | refine Below.drew ?_ | refine Below.alloc ?_ (by first | omega | (simp <;> omega)) _ | refine Below.setCell ?_ (by first | omega | (simp <;> omega)) _))) (hb2.mono (by (first | omega | (simp <;> omega)))); obtain ⟨hcc2, hff2⟩ := bk hb2 w.heap.size (by (first | omega | (simp <;> omega))); have hz2 := hb2.size; try simp at hz2)
          | (go_at_call 90; refine (HX.out _).mono ?_; rintro e w3 ⟨rfl, rfl⟩))
        all_goals
          go_wp2
          go_ret
          exact ⟨by rw [HF.out]; rfl, by (repeat (first | (with_reducible exact Below.refl _ _) | (with_reducible assumption) | (with_reducible refine Below.drew ?_) | (focus ((with_reducible refine Below.setCell ?_ ?_ _); rotate_left; (first | omega | (simp <;> omega)))) | (focus ((with_reducible refine Below.alloc ?_ ?_ _); rotate_left; (first | omega | (simp <;> omega)))) | exact Below.refl _ _ | assumption | refine Below.drew ?_ | refine Below.alloc ?_ (by first | omega | (simp <;> omega)) _ | refine Below.setCell ?_ (by first | omega | (simp <;> omega)) _))⟩
      · have hl : decide (v.length ≤ 1000) = false := by simp; omega
        rw [hl]
        obtain rfl : tv = v := by simpa using hb
        have hlen2 : 1000 < (tv.length : Int) := by omega
        have hlen3 : decide ((tv.length : Int) ≤ 1000) = false := by simp; omega
        clear hb hl hlen
        go_enter Tryz.func64, Tryz.ntmps64
        go_wp2_with fail
        refine wp_region_later (w.heap.size + 1) (by kernel_rfl) (by kernel_rfl) ?_
        have l_w1_w_0 := @Later.at (w.heap.size + 1) (w.heap.size) (by omega)
        repeat (go_big_quiet_step (first | (go_at_call 42; refine later_of (by (first | omega | (simp <;> omega))) (C1.out _)) | (go_at_call 44; refine later_of (by (first | omega | (simp <;> omega))) (C2.out _))))
        refine wpQuiet_nil ?_
        rintro w1 ⟨⟨_, hb_w1⟩, rfl⟩
        clear l_w1_w_0
        try simp only [] at hb_w1 ⊢
        have hz_w1 := hb_w1.size
        try simp at hz_w1
        have c_w1_w_0 := fun o => hb_w1.cell (p := ⟨w.heap.size, o, none⟩) (by first | omega | (simp <;> omega))
        have f_w1_w_0 := fun o => hb_w1.frozen (p := ⟨w.heap.size, o, none⟩) (by first | omega | (simp <;> omega))
        have c_w1_w_0_0 := c_w1_w_0 0
        conv at c_w1_w_0_0 => rhs; simp [go_sem, *]
        have f_w1_w_0_0 := f_w1_w_0 0
        conv at f_w1_w_0_0 => rhs; simp [go_sem, *]
        have HH_w1 := Lib.hid hb_w1
        have hB_w1 : Below w.heap.size w w1 := Below.trans (by (repeat (first | (with_reducible exact Below.refl _ _) | (with_reducible assumption) | (with_reducible refine Below.drew ?_) | (focus ((with_reducible refine Below.setCell ?_ ?_ _); rotate_left; (first | omega | (simp <;> omega)))) | (focus ((with_reducible refine Below.alloc ?_ ?_ _); rotate_left; (first | omega | (simp <;> omega)))) | exact Below.refl _ _ | assumption | refine Below.drew ?_ | refine Below.alloc ?_ (by first | omega | (simp <;> omega)) _ | refine Below.setCell ?_ (by first | omega | (simp <;> omega)) _))) (hb_w1.mono (by first | omega | (simp <;> omega)))
        clear hb_w1 c_w1_w_0 f_w1_w_0
        have far_w1_w_0 := far (show w.heap.size < w1.heap.size by omega)
        go_wp2
        go_ret
        exact ⟨by simp, by (repeat (first | (with_reducible exact Below.refl _ _) | (with_reducible assumption) | (with_reducible refine Below.drew ?_) | (focus ((with_reducible refine Below.setCell ?_ ?_ _); rotate_left; (first | omega | (simp <;> omega)))) | (focus ((with_reducible refine Below.alloc ?_ ?_ _); rotate_left; (first | omega | (simp <;> omega)))) | exact Below.refl _ _ | assumption | refine Below.drew ?_ | refine Below.alloc ?_ (by first | omega | (simp <;> omega)) _ | refine Below.setCell ?_ (by first | omega | (simp <;> omega)) _))⟩
end Go.Proofs.YtcfihoniocamaaaGreatDoor
namespace Go.Proofs.YtcfihoniocamaaaGreatDoor
open Go.RowKit Go.Sort Go.Shelf
set_option linter.unusedVariables false

set_option maxHeartbeats 1600000 in
set_option maxRecDepth 100000 in
theorem refMay (n v : List UInt8) (h1 : n.length ≤ 4611686018427387903) (h2 : v.length ≤ 4611686018427387903) (w : World) :
    Calls Tryz.prog 31 #[fv (n, v)] w fun e w' => e = .returned (.bool (mayL (n, v))) ∧ Below w.heap.size w w' := by
  have C1 := Lib.hid (fun W => refToken n (by omega) W)
  have C2 := Lib.hid (fun W => refTrim v (by omega) W)
  have e : mayL (n, v) = (tokenL n && (trim v == v) && decide (v.length ≤ 1000) && !v.any ctlB) := rfl
  rw [e]
  obtain ⟨a, ha⟩ : ∃ a, tokenL n = a := ⟨_, rfl⟩
  obtain ⟨tv, htv⟩ : ∃ tv, trim v = tv := ⟨_, rfl⟩
  rw [ha] at C1 ⊢
  rw [htv] at C2 ⊢
  clear e ha htv
  unfold fv
  go_enter Tryz.func31, Tryz.ntmps31
  go_wp2
  go_loop [3] (fun iv => ∃ i : Nat, iv = .int .i64 i ∧ i ≤ v.length ∧ (v.take i).any ctlB = false) (fun iv => v.length - (intOf iv).toNat)
  case atStart => exact ⟨0, rfl, Nat.zero_le _, rfl⟩
  case round =>
    obtain ⟨i, rfl, hi, hany⟩ := hrel
    have HA := Lib.hid hany
    clear hany
    by_cases hlt : i < v.length
    · have hbk : bAt v i = (v[i].toNat : Int) := bAt_eq hlt
      have htk : (v.take (i + 1)).any ctlB = ctlB v[i] := by
        rw [List.take_succ_eq_append_getElem hlt, List.any_append, HA.out]; simp
      have hyes : ctlB v[i] = true → v.any ctlB = true := fun h => List.any_eq_true.2 ⟨_, List.getElem_mem hlt, h⟩
      obtain ⟨c, hc⟩ : ∃ c, v[i] = c := ⟨_, rfl⟩
      rw [hc] at hbk htk hyes
      have hcall := fun W => (ctl_call c W).2
      obtain ⟨x, hx⟩ : ∃ x, ctlB c = x := ⟨_, rfl⟩
      rw [hx] at hcall htk hyes
      have HTK := Lib.hid htk
      have HY := Lib.hid hyes
      clear htk hyes hx hc
      cases x with
      | true =>
        go_wp2_with (go_at_call 61; refine (hcall _).mono ?_; rintro e w' ⟨rfl, rfl⟩)
        go_ret
        exact ⟨by rw [HY.out trivial]; simp, by (repeat (first | (with_reducible exact Below.refl _ _) | (with_reducible assumption) | (with_reducible refine Below.drew ?_) | (focus ((with_reducible refine Below.setCell ?_ ?_ _); rotate_left; (first | omega | (simp <;> omega)))) | (focus ((with_reducible refine Below.alloc ?_ ?_ _); rotate_left; (first | omega | (simp <;> omega)))) | exact Below.refl _ _ | assumption | refine Below.drew ?_ | refine Below.alloc ?_ (by first | omega | (simp <;> omega)) _ | refine Below.setCell ?_ (by first | omega | (simp <;> omega)) _))⟩
      | false =>
        go_wp2_with (go_at_call 61; refine (hcall _).mono ?_; rintro e w' ⟨rfl, rfl⟩)
        go_round
        case rel => exact ⟨i + 1, by go_num, by omega, HTK.out⟩
        case measure => simp [intOf]; omega
    · obtain rfl : i = v.length := by omega
      have h := HA.out
      rw [List.take_length] at h
      have H := Lib.hid h
      clear h
      cases a with
      | false =>
        go_wp2_with fail
        refine wp_region_later (w.heap.size + 1) (by kernel_rfl) (by kernel_rfl) ?_
        have l_w1_w_0 := @Later.at (w.heap.size + 1) (w.heap.size) (by omega)
        repeat (go_big_quiet_step (first | (go_at_call 22; refine later_same (C1.out _)) | (go_at_call 24; refine later_same (C2.out _))))
        refine wpQuiet_nil ?_
        rintro w1 ⟨⟨_, hb_w1⟩, rfl⟩
        clear l_w1_w_0
        try simp only [] at hb_w1 ⊢
        have hz_w1 := hb_w1.size
        try simp at hz_w1
        have c_w1_w_0 := fun o => hb_w1.cell (p := ⟨w.heap.size, o, none⟩) (by first | omega | (simp <;> omega))
        have f_w1_w_0 := fun o => hb_w1.frozen (p := ⟨w.heap.size, o, none⟩) (by first | omega | (simp <;> omega))
        have c_w1_w_0_0 := c_w1_w_0 0
        conv at c_w1_w_0_0 => rhs; simp [go_sem, *]
        have f_w1_w_0_0 := f_w1_w_0 0
        conv at f_w1_w_0_0 => rhs; simp [go_sem, *]
        have HH_w1 := Lib.hid hb_w1
        have hB_w1 : Below w.heap.size w w1 := Below.trans (by (repeat (first | (with_reducible exact Below.refl _ _) | (with_reducible assumption) | (with_reducible refine Below.drew ?_) | (focus ((with_reducible refine Below.setCell ?_ ?_ _); rotate_left; (first | omega | (simp <;> omega)))) | (focus ((with_reducible refine Below.alloc ?_ ?_ _); rotate_left; (first | omega | (simp <;> omega)))) | exact Below.refl _ _ | assumption | refine Below.drew ?_ | refine Below.alloc ?_ (by first | omega | (simp <;> omega)) _ | refine Below.setCell ?_ (by first | omega | (simp <;> omega)) _))) (hb_w1.mono (by first | omega | (simp <;> omega)))
        clear hb_w1 c_w1_w_0 f_w1_w_0
        have far_w1_w_0 := far (show w.heap.size < w1.heap.size by omega)
        go_wp2
        go_ret
        exact ⟨by simp, by (repeat (first | (with_reducible exact Below.refl _ _) | (with_reducible assumption) | (with_reducible refine Below.drew ?_) | (focus ((with_reducible refine Below.setCell ?_ ?_ _); rotate_left; (first | omega | (simp <;> omega)))) | (focus ((with_reducible refine Below.alloc ?_ ?_ _); rotate_left; (first | omega | (simp <;> omega)))) | exact Below.refl _ _ | assumption | refine Below.drew ?_ | refine Below.alloc ?_ (by first | omega | (simp <;> omega)) _ | refine Below.setCell ?_ (by first | omega | (simp <;> omega)) _))⟩
      | true =>
        obtain ⟨b, hb⟩ : ∃ b, (tv == v) = b := ⟨_, rfl⟩
        have HB := Lib.hid hb
        cases b with
        | false =>
          go_wp2_with fail
          refine wp_region_later (w.heap.size + 1) (by kernel_rfl) (by kernel_rfl) ?_
          have l_w1_w_0 := @Later.at (w.heap.size + 1) (w.heap.size) (by omega)
          repeat (go_big_quiet_step (first | (go_at_call 22; refine later_same (C1.out _)) | (go_at_call 24; refine later_same (C2.out _))))
          refine wpQuiet_nil ?_
          rintro w1 ⟨⟨_, hb_w1⟩, rfl⟩
          clear l_w1_w_0
          try simp only [] at hb_w1 ⊢
          have hz_w1 := hb_w1.size
          try simp at hz_w1
          have c_w1_w_0 := fun o => hb_w1.cell (p := ⟨w.heap.size, o, none⟩) (by first | omega | (simp <;> omega))
          have f_w1_w_0 := fun o => hb_w1.frozen (p := ⟨w.heap.size, o, none⟩) (by first | omega | (simp <;> omega))
          have c_w1_w_0_0 := c_w1_w_0 0
          conv at c_w1_w_0_0 => rhs; simp [go_sem, *]
          have f_w1_w_0_0 := f_w1_w_0 0
          conv at f_w1_w_0_0 => rhs; simp [go_sem, *]
          have HH_w1 := Lib.hid hb_w1
          have hB_w1 : Below w.heap.size w w1 := Below.trans (by (repeat (first | (with_reducible exact Below.refl _ _) | (with_reducible assumption) | (with_reducible refine Below.drew ?_) | (focus ((with_reducible refine Below.setCell ?_ ?_ _); rotate_left; (first | omega | (simp <;> omega)))) | (focus ((with_reducible refine Below.alloc ?_ ?_ _); rotate_left; (first | omega | (simp <;> omega)))) | exact Below.refl _ _ | assumption | refine Below.drew ?_ | refine Below.alloc ?_ (by first | omega | (simp <;> omega)) _ | refine Below.setCell ?_ (by first | omega | (simp <;> omega)) _))) (hb_w1.mono (by first | omega | (simp <;> omega)))
          clear hb_w1 c_w1_w_0 f_w1_w_0
          have far_w1_w_0 := far (show w.heap.size < w1.heap.size by omega)
          go_wp2
          go_ret
          exact ⟨by rw [HB.out]; simp, by (repeat (first | (with_reducible exact Below.refl _ _) | (with_reducible assumption) | (with_reducible refine Below.drew ?_) | (focus ((with_reducible refine Below.setCell ?_ ?_ _); rotate_left; (first | omega | (simp <;> omega)))) | (focus ((with_reducible refine Below.alloc ?_ ?_ _); rotate_left; (first | omega | (simp <;> omega)))) | exact Below.refl _ _ | assumption | refine Below.drew ?_ | refine Below.alloc ?_ (by first | omega | (simp <;> omega)) _ | refine Below.setCell ?_ (by first | omega | (simp <;> omega)) _))⟩
        | true =>
          obtain rfl : tv = v := by simpa using hb
          clear hb
          go_wp2_with fail
          refine wp_region_later (w.heap.size + 1) (by kernel_rfl) (by kernel_rfl) ?_
          have l_w1_w_0 := @Later.at (w.heap.size + 1) (w.heap.size) (by omega)
          repeat (go_big_quiet_step (first | (go_at_call 22; refine later_same (C1.out _)) | (go_at_call 24; refine later_same (C2.out _))))
          refine wpQuiet_nil ?_
          rintro w1 ⟨⟨_, hb_w1⟩, rfl⟩
          clear l_w1_w_0
          try simp only [] at hb_w1 ⊢
          have hz_w1 := hb_w1.size
          try simp at hz_w1
          have c_w1_w_0 := fun o => hb_w1.cell (p := ⟨w.heap.size, o, none⟩) (by first | omega | (simp <;> omega))
          have f_w1_w_0 := fun o => hb_w1.frozen (p := ⟨w.heap.size, o, none⟩) (by first | omega | (simp <;> omega))
          have c_w1_w_0_0 := c_w1_w_0 0
          conv at c_w1_w_0_0 => rhs; simp [go_sem, *]
          have f_w1_w_0_0 := f_w1_w_0 0
          conv at f_w1_w_0_0 => rhs; simp [go_sem, *]
          have HH_w1 := Lib.hid hb_w1
          have hB_w1 : Below w.heap.size w w1 := Below.trans (by (repeat (first | (with_reducible exact Below.refl _ _) | (with_reducible assumption) | (with_reducible refine Below.drew ?_) | (focus ((with_reducible refine Below.setCell ?_ ?_ _); rotate_left; (first | omega | (simp <;> omega)))) | (focus ((with_reducible refine Below.alloc ?_ ?_ _); rotate_left; (first | omega | (simp <;> omega)))) | exact Below.refl _ _ | assumption | refine Below.drew ?_ | refine Below.alloc ?_ (by first | omega | (simp <;> omega)) _ | refine Below.setCell ?_ (by first | omega | (simp <;> omega)) _))) (hb_w1.mono (by first | omega | (simp <;> omega)))
          clear hb_w1 c_w1_w_0 f_w1_w_0
          have far_w1_w_0 := far (show w.heap.size < w1.heap.size by omega)
          go_wp2
          go_ret
          exact ⟨by rw [H.out, HB.out]; simp; omega, by (repeat (first | (with_reducible exact Below.refl _ _) | (with_reducible assumption) | (with_reducible refine Below.drew ?_) | (focus ((with_reducible refine Below.setCell ?_ ?_ _); rotate_left; (first | omega | (simp <;> omega)))) | (focus ((with_reducible refine Below.alloc ?_ ?_ _); rotate_left; (first | omega | (simp <;> omega)))) | exact Below.refl _ _ | assumption | refine Below.drew ?_ | refine Below.alloc ?_ (by first | omega | (simp <;> omega)) _ | refine Below.setCell ?_ (by first | omega | (simp <;> omega)) _))⟩
end Go.Proofs.YtcfihoniocamaaaGreatDoor
