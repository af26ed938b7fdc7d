/- Where a request goes, and the address of what it asks: the walk of route.Ask. Printed by tools/rtask.py. Where a request goes, the document's: the walk of Find. Printed by tools/rtfindref.py. -/
import Derived.Test.YtgjemgilanhdiaaGreatDoorRf35
import Derived.Test.YtgjemgilanhdiaaGreatDoorRf36
import Derived.Test.YtgjemgilanhdiaaGreatDoorRf37
import Derived.Test.YtgjemgilanhdiaaGreatDoorRf30
import Derived.Test.YtgjemgilanhdiaaGreatDoorRf29
namespace Go.Proofs.YtgjemgilanhdiaaGreatDoor
open Go.RowKit Go.Sort Go.Shelf
set_option linter.unusedVariables false
set_option linter.unusedSimpArgs false

theorem routeAsk (v : Value) (L : List Wrd) (s : St) (fv : Value) (F : List Fld) (bo : List UInt8) (w : World) (hr : ReadsW w v L) (hl : ∀ f ∈ L, f.1.length ≤ 900 ∧ f.2.1.length ≤ 900 ∧ f.2.2.length ≤ 900) (hn : L.length ≤ 1000000)
    (hfr : ReadsF w fv F) (hfs : ∀ f ∈ F, f.1.length ≤ 140737488351232 ∧ f.2.length ≤ 140737488351232) (h1 : s.m.length ≤ 140737488351232) (h2 : s.t.length ≤ 140737488351232) (h3 : s.r.length ≤ 140737488351232) (hLd : Laid w)
    (hSR : ∀ W, Calls Tryz.prog 20 #[.agg #[.string (S s.m), .string (S s.t), .int .i64 s.c, .string (S s.r), .int .i64 s.n]] W fun e w' => e = .returned (.bool (startOk s)) ∧ Below W.heap.size W w') :
    Calls Tryz.prog 7 #[v, .agg #[.string (S s.m), .string (S s.t), .int .i64 s.c, .string (S s.r), .int .i64 s.n, fv, .string (S bo)]] w fun e w' => e = .returned (askV (askR L s (getV F [72, 111, 115, 116]).1)) ∧ Below w.heap.size w w' := by
  by_cases hno : rightRt L = true ∧ startOk s = true ∧ s.c = 0
  · obtain ⟨hR1, hK1, hc⟩ := hno
    cases hpf : Lib.hasPrefix s.t httpL with
    | true => exact routeAsk_t v L s fv F bo w hr hl hn hfr hfs h1 h2 h3 hLd hSR hR1 hK1 hc hpf
    | false =>
      by_cases hh0 : (getV F [72, 111, 115, 116]).1 = []
      · exact routeAsk_f v L s fv F bo w hr hl hn hfr hfs h1 h2 h3 hLd hSR hR1 hK1 hc hpf hh0
      · exact routeAsk_g v L s fv F bo w hr hl hn hfr hfs h1 h2 h3 hLd hSR hR1 hK1 hc hpf hh0
  · exact routeAsk_no v L s fv F bo w hr hl hn hfr hfs h1 h2 h3 hLd hSR hno
end Go.Proofs.YtgjemgilanhdiaaGreatDoor
namespace Go.Proofs.YtgjemgilanhdiaaGreatDoor
open Go.RowKit Go.Sort Go.Shelf
set_option linter.unusedVariables false
set_option linter.unusedSimpArgs false

theorem pre_take (t p : List UInt8) : Lib.hasPrefix t p = (decide (p.length ≤ t.length) && (t.take p.length == p)) := by
  cases h : Lib.hasPrefix t p with
  | true =>
    obtain ⟨h1, h2⟩ := pre_len h
    rw [h2]
    simp [h1]
  | false =>
    symm
    rw [Bool.and_eq_false_iff]
    by_cases hl : p.length ≤ t.length
    · right
      rw [beq_eq_false_iff_ne]
      intro e
      have hp : p <+: t := List.prefix_iff_eq_take.2 e.symm
      unfold Lib.hasPrefix at h
      rw [List.isPrefixOf_iff_prefix.2 hp] at h
      cases h
    · left; simpa using hl
theorem refStep_eq (host path : List UInt8) (b r : Rt) : refStep host path b r = if ((r.1.isEmpty || r.1 == host) && (decide (r.2.1.length ≤ path.length) && (path.take r.2.1.length == r.2.1))) && (decide (b.2.1.length < r.2.1.length) || (decide (r.2.1.length = b.2.1.length) && b.1.isEmpty)) then r else b := by
  unfold refStep fitB
  rw [pre_take]

set_option maxHeartbeats 12800000 in
set_option maxRecDepth 100000 in
theorem refFindRt (v : Value) (L : List Wrd) (host path : List UInt8) (w : World) (hr : ReadsW w v L) (hl : ∀ f ∈ L, f.1.length ≤ 900 ∧ f.2.1.length ≤ 900 ∧ f.2.2.length ≤ 900) :
    Calls Tryz.prog 12 #[v, .string (S host), .string (S path)] w fun e w' => e = .returned (.tuple #[.string (S (refFindR L host path).1), .int .i64 (refFindR L host path).2]) ∧ Below w.heap.size w w' := by
  obtain ⟨ao, cap, rfl, g1, g2, _, hcell⟩ := hr
  have hm : maxLen = 9223372036854775807 := rfl
  rw [hm] at g2
  clear hm
  have HC := Lib.hid hcell
  have HL := Lib.hid hl
  obtain ⟨R, hR⟩ : ∃ R, refFindR L host path = R := ⟨_, rfl⟩
  have HR := Lib.hid hR
  rw [hR]
  unfold refFindR at HR
  have HB0 := Lib.hid (show refBest L host path = L.foldl (refStep host path) ([], [], []) from rfl)
  clear hcell hl hR
  go_enter Tryz.func12, Tryz.ntmps12
  go_wp2
  try simp only [mk_S]
  go_loopw [16] (fun iv wr => ∃ (k : Nat) (b0 b1 b2 : List UInt8), iv = .int .i64 k ∧ k ≤ L.length ∧ (L.drop k).foldl (refStep host path) (b0, b1, b2) = refBest L host path ∧ b1.length ≤ 900 ∧ w.heap.size < wr.heap.size ∧ (wr.cell? ⟨w.heap.size, 0, none⟩ = some (.string (S b0)) ∧ wr.cell? ⟨w.heap.size, 1, none⟩ = some (.string (S b1)) ∧ wr.cell? ⟨w.heap.size, 2, none⟩ = some (.string (S b2))) ∧ (wr.frozen? ⟨w.heap.size, 0, none⟩ = false ∧ wr.frozen? ⟨w.heap.size, 1, none⟩ = false ∧ wr.frozen? ⟨w.heap.size, 2, none⟩ = false) ∧ Below w.heap.size w wr) (fun iv _ => L.length - (intOf iv).toNat)
  case atStart => exact ⟨0, [], [], [], rfl, Nat.zero_le _, HB0.out.symm, by simp, by simp, ⟨by simp [go_sem], by simp [go_sem], by simp [go_sem]⟩, ⟨by simp [go_sem], by simp [go_sem], by simp [go_sem]⟩, by (repeat (first | with_reducible exact Below.refl _ _ | with_reducible assumption | with_reducible refine Below.drew ?_ | (with_reducible refine Below.setCell ?_ ?_ _; rotate_left; (first | omega | (simp <;> omega))) | (with_reducible refine Below.alloc ?_ ?_ _; rotate_left; (first | omega | (simp <;> omega))) | exact Below.refl _ _ | assumption))⟩
  case round =>
    obtain ⟨k, b0, b1, b2, rfl, hk, hfold, hb1, hzr, ⟨c0, c1, c2⟩, ⟨f0, f1, f2⟩, hB⟩ := hrel
    have HF := Lib.hid hfold
    have hzw := hB.size
    have far1 := far hzr
    have hb1i : (b1.length : Int) ≤ 900 := by omega
    clear hfold
    by_cases hkl : k < L.length
    · obtain ⟨bb, off, rfl, hbb, hcl⟩ := HC.out (by omega)
      obtain ⟨e1, e2, e3⟩ := hcl k hkl
      rw [← hB.cell (p := ⟨bb, off + k * 3, none⟩) hbb] at e1
      rw [← hB.cell (p := ⟨bb, off + k * 3 + 1, none⟩) hbb] at e2
      rw [← hB.cell (p := ⟨bb, off + k * 3 + 2, none⟩) hbb] at e3
      have hll := HL.out _ (List.getElem_mem hkl)
      have hbz : bb < wr.heap.size := by omega
      have far2 := far hbz
      have HF2 := Lib.hid (show (L.drop (k + 1)).foldl (refStep host path) (refStep host path (b0, b1, b2) L[k]) = refBest L host path by have h := HF.out; rw [List.drop_eq_getElem_cons hkl, List.foldl_cons] at h; exact h)
      obtain ⟨⟨r0, r1, r2⟩, hx⟩ : ∃ f, L[k] = f := ⟨_, rfl⟩
      rw [hx] at e1 e2 e3 hll HF2
      simp only at e1 e2 e3 hll
      obtain ⟨q0, q1, q2⟩ := hll
      have q1i : (r1.length : Int) ≤ 900 := by omega
      rw [refStep_eq] at HF2
      simp only at HF2
      have HB := Lib.hid hB
      clear hcl hx hB HF
      cases hre : r0.isEmpty with
      | true =>
        obtain rfl : r0 = [] := by simpa using hre
        by_cases hn : r1.length ≤ path.length
        rotate_left
        · have hni : ¬ (r1.length : Int) ≤ (path.length : Int) := by omega
          have hnd : decide ((r1.length : Int) ≤ (path.length : Int)) = false := by simp; omega
          have z1 : decide (r1.length ≤ path.length) = false := decide_eq_false hn
          have hnn : path.length < r1.length := by omega
          have HF3 := Lib.hid (show (L.drop (k + 1)).foldl (refStep host path) (b0, b1, b2) = refBest L host path by have h := HF2.out; rw [if_neg (by simp only [List.isEmpty_nil, z1, List.isEmpty_nil, Bool.true_or, Bool.or_true, Bool.false_or, Bool.or_false, Bool.true_and, Bool.and_true, Bool.false_and, Bool.and_false, Bool.false_eq_true, not_false_eq_true])] at h; exact h)
          clear HF2
          go_wp2_with fail
          refine wp_region_later (wr.heap.size + 1) (by kernel_rfl) (by kernel_rfl) ?_
          have l_w6_wr_0 := @Later.at (wr.heap.size + 1) (wr.heap.size) (by omega)
          have l_w6_w_0 := @Later.at (wr.heap.size + 1) (w.heap.size) (by omega)
          repeat (go_big_quiet_step (fail))
          refine wpQuiet_nil ?_
          rintro w6 ⟨⟨_, hb_w6⟩, rfl⟩
          clear l_w6_wr_0 l_w6_w_0
          try simp only [] at hb_w6 ⊢
          have hz_w6 := hb_w6.size
          try simp at hz_w6
          have c_w6_wr_0 := fun o => hb_w6.cell (p := ⟨wr.heap.size, o, none⟩) (by first | omega | (simp <;> omega))
          have f_w6_wr_0 := fun o => hb_w6.frozen (p := ⟨wr.heap.size, o, none⟩) (by first | omega | (simp <;> omega))
          have c_w6_wr_0_0 := c_w6_wr_0 0; conv at c_w6_wr_0_0 => rhs; simp [go_sem, *]
          have f_w6_wr_0_0 := f_w6_wr_0 0; conv at f_w6_wr_0_0 => rhs; simp [go_sem, *]
          have c_w6_wr_0_1 := c_w6_wr_0 1; conv at c_w6_wr_0_1 => rhs; simp [go_sem, *]
          have f_w6_wr_0_1 := f_w6_wr_0 1; conv at f_w6_wr_0_1 => rhs; simp [go_sem, *]
          have c_w6_wr_0_2 := c_w6_wr_0 2; conv at c_w6_wr_0_2 => rhs; simp [go_sem, *]
          have f_w6_wr_0_2 := f_w6_wr_0 2; conv at f_w6_wr_0_2 => rhs; simp [go_sem, *]
          have c6__0 := fun o => hb_w6.cell (p := ⟨w.heap.size, o, none⟩) (by first | omega | (simp <;> omega))
          have f6__0 := fun o => hb_w6.frozen (p := ⟨w.heap.size, o, none⟩) (by first | omega | (simp <;> omega))
          have c6__0_0 := c6__0 0; conv at c6__0_0 => rhs; simp [go_sem, *]
          have f6__0_0 := f6__0 0; conv at f6__0_0 => rhs; simp [go_sem, *]
          have c6__0_1 := c6__0 1; conv at c6__0_1 => rhs; simp [go_sem, *]
          have f6__0_1 := f6__0 1; conv at f6__0_1 => rhs; simp [go_sem, *]
          have c6__0_2 := c6__0 2; conv at c6__0_2 => rhs; simp [go_sem, *]
          have f6__0_2 := f6__0 2; conv at f6__0_2 => rhs; simp [go_sem, *]
          have HH_w6 := Lib.hid hb_w6
          have hB_w6 : Below wr.heap.size wr w6 := Below.trans (by (repeat (first | with_reducible exact Below.refl _ _ | with_reducible assumption | with_reducible refine Below.drew ?_ | (with_reducible refine Below.setCell ?_ ?_ _; rotate_left; (first | omega | (simp <;> omega))) | (with_reducible refine Below.alloc ?_ ?_ _; rotate_left; (first | omega | (simp <;> omega))) | exact Below.refl _ _ | assumption))) (hb_w6.mono (by first | omega | (simp <;> omega)))
          clear hb_w6 c_w6_wr_0 f_w6_wr_0 c6__0 f6__0
          have far_w6_wr_0 := far (show wr.heap.size < w6.heap.size by omega)
          have far_w6_w_0 := far (show w.heap.size < w6.heap.size by omega)
          go_wp2_with fail
          go_roundw
          case rel => exact ⟨k + 1, b0, b1, b2, by go_num, by omega, HF3.out, by omega, by (try simp only [World.size_setCell]); omega, ⟨by simp [go_sem, *], by simp [go_sem, *], by simp [go_sem, *]⟩, ⟨by simp [go_sem, *], by simp [go_sem, *], by simp [go_sem, *]⟩, by (have := HB.out.trans (hB_w6.mono hzw); (repeat (first | with_reducible exact Below.refl _ _ | with_reducible assumption | with_reducible refine Below.drew ?_ | (with_reducible refine Below.setCell ?_ ?_ _; rotate_left; (first | omega | (simp <;> omega))) | (with_reducible refine Below.alloc ?_ ?_ _; rotate_left; (first | omega | (simp <;> omega))) | exact Below.refl _ _ | assumption)))⟩
          case measure => simp [intOf]; omega
        have hni : (r1.length : Int) ≤ (path.length : Int) := by omega
        have hnd : decide ((r1.length : Int) ≤ (path.length : Int)) = true := by simp; omega
        have z1 : decide (r1.length ≤ path.length) = true := decide_eq_true hn
        cases htk : (path.take r1.length == r1) with
        | false =>
          have HF3 := Lib.hid (show (L.drop (k + 1)).foldl (refStep host path) (b0, b1, b2) = refBest L host path by have h := HF2.out; rw [if_neg (by simp only [List.isEmpty_nil, z1, htk, List.isEmpty_nil, Bool.true_or, Bool.or_true, Bool.false_or, Bool.or_false, Bool.true_and, Bool.and_true, Bool.false_and, Bool.and_false, Bool.false_eq_true, not_false_eq_true])] at h; exact h)
          clear HF2
          go_wp2_with fail
          refine wp_region_later (wr.heap.size + 1) (by kernel_rfl) (by kernel_rfl) ?_
          have l_w6_wr_0 := @Later.at (wr.heap.size + 1) (wr.heap.size) (by omega)
          have l_w6_w_0 := @Later.at (wr.heap.size + 1) (w.heap.size) (by omega)
          repeat (go_big_quiet_step (fail))
          refine wpQuiet_nil ?_
          rintro w6 ⟨⟨_, hb_w6⟩, rfl⟩
          clear l_w6_wr_0 l_w6_w_0
          try simp only [] at hb_w6 ⊢
          have hz_w6 := hb_w6.size
          try simp at hz_w6
          have c_w6_wr_0 := fun o => hb_w6.cell (p := ⟨wr.heap.size, o, none⟩) (by first | omega | (simp <;> omega))
          have f_w6_wr_0 := fun o => hb_w6.frozen (p := ⟨wr.heap.size, o, none⟩) (by first | omega | (simp <;> omega))
          have c_w6_wr_0_0 := c_w6_wr_0 0; conv at c_w6_wr_0_0 => rhs; simp [go_sem, *]
          have f_w6_wr_0_0 := f_w6_wr_0 0; conv at f_w6_wr_0_0 => rhs; simp [go_sem, *]
          have c_w6_wr_0_1 := c_w6_wr_0 1; conv at c_w6_wr_0_1 => rhs; simp [go_sem, *]
          have f_w6_wr_0_1 := f_w6_wr_0 1; conv at f_w6_wr_0_1 => rhs; simp [go_sem, *]
          have c_w6_wr_0_2 := c_w6_wr_0 2; conv at c_w6_wr_0_2 => rhs; simp [go_sem, *]
          have f_w6_wr_0_2 := f_w6_wr_0 2; conv at f_w6_wr_0_2 => rhs; simp [go_sem, *]
          have c6__0 := fun o => hb_w6.cell (p := ⟨w.heap.size, o, none⟩) (by first | omega | (simp <;> omega))
          have f6__0 := fun o => hb_w6.frozen (p := ⟨w.heap.size, o, none⟩) (by first | omega | (simp <;> omega))
          have c6__0_0 := c6__0 0; conv at c6__0_0 => rhs; simp [go_sem, *]
          have f6__0_0 := f6__0 0; conv at f6__0_0 => rhs; simp [go_sem, *]
          have c6__0_1 := c6__0 1; conv at c6__0_1 => rhs; simp [go_sem, *]
          have f6__0_1 := f6__0 1; conv at f6__0_1 => rhs; simp [go_sem, *]
          have c6__0_2 := c6__0 2; conv at c6__0_2 => rhs; simp [go_sem, *]
          have f6__0_2 := f6__0 2; conv at f6__0_2 => rhs; simp [go_sem, *]
          have HH_w6 := Lib.hid hb_w6
          have hB_w6 : Below wr.heap.size wr w6 := Below.trans (by (repeat (first | with_reducible exact Below.refl _ _ | with_reducible assumption | with_reducible refine Below.drew ?_ | (with_reducible refine Below.setCell ?_ ?_ _; rotate_left; (first | omega | (simp <;> omega))) | (with_reducible refine Below.alloc ?_ ?_ _; rotate_left; (first | omega | (simp <;> omega))) | exact Below.refl _ _ | assumption))) (hb_w6.mono (by first | omega | (simp <;> omega)))
          clear hb_w6 c_w6_wr_0 f_w6_wr_0 c6__0 f6__0
          have far_w6_wr_0 := far (show wr.heap.size < w6.heap.size by omega)
          have far_w6_w_0 := far (show w.heap.size < w6.heap.size by omega)
          go_wp2_with fail
          go_roundw
          case rel => exact ⟨k + 1, b0, b1, b2, by go_num, by omega, HF3.out, by omega, by (try simp only [World.size_setCell]); omega, ⟨by simp [go_sem, *], by simp [go_sem, *], by simp [go_sem, *]⟩, ⟨by simp [go_sem, *], by simp [go_sem, *], by simp [go_sem, *]⟩, by (have := HB.out.trans (hB_w6.mono hzw); (repeat (first | with_reducible exact Below.refl _ _ | with_reducible assumption | with_reducible refine Below.drew ?_ | (with_reducible refine Below.setCell ?_ ?_ _; rotate_left; (first | omega | (simp <;> omega))) | (with_reducible refine Below.alloc ?_ ?_ _; rotate_left; (first | omega | (simp <;> omega))) | exact Below.refl _ _ | assumption)))⟩
          case measure => simp [intOf]; omega
        | true =>
          by_cases h1 : b1.length < r1.length
          · have h1i : (b1.length : Int) < (r1.length : Int) := by omega
            have h1d : decide ((b1.length : Int) < (r1.length : Int)) = true := by simp; omega
            have z2 : decide (b1.length < r1.length) = true := decide_eq_true h1
            have HF3 := Lib.hid (show (L.drop (k + 1)).foldl (refStep host path) ([], r1, r2) = refBest L host path by have h := HF2.out; rw [if_pos (by simp only [List.isEmpty_nil, z1, htk, z2, List.isEmpty_nil, Bool.true_or, Bool.or_true, Bool.false_or, Bool.or_false, Bool.true_and, Bool.and_true, Bool.false_and, Bool.and_false])] at h; exact h)
            clear HF2
            go_wp2_with fail
            refine wp_region_later (wr.heap.size + 1) (by kernel_rfl) (by kernel_rfl) ?_
            have l_w6_wr_0 := @Later.at (wr.heap.size + 1) (wr.heap.size) (by omega)
            have l_w6_w_0 := @Later.at (wr.heap.size + 1) (w.heap.size) (by omega)
            repeat (go_big_quiet_step (fail))
            refine wpQuiet_nil ?_
            rintro w6 ⟨⟨_, hb_w6⟩, rfl⟩
            clear l_w6_wr_0 l_w6_w_0
            try simp only [] at hb_w6 ⊢
            have hz_w6 := hb_w6.size
            try simp at hz_w6
            have c_w6_wr_0 := fun o => hb_w6.cell (p := ⟨wr.heap.size, o, none⟩) (by first | omega | (simp <;> omega))
            have f_w6_wr_0 := fun o => hb_w6.frozen (p := ⟨wr.heap.size, o, none⟩) (by first | omega | (simp <;> omega))
            have c_w6_wr_0_0 := c_w6_wr_0 0; conv at c_w6_wr_0_0 => rhs; simp [go_sem, *]
            have f_w6_wr_0_0 := f_w6_wr_0 0; conv at f_w6_wr_0_0 => rhs; simp [go_sem, *]
            have c_w6_wr_0_1 := c_w6_wr_0 1; conv at c_w6_wr_0_1 => rhs; simp [go_sem, *]
            have f_w6_wr_0_1 := f_w6_wr_0 1; conv at f_w6_wr_0_1 => rhs; simp [go_sem, *]
            have c_w6_wr_0_2 := c_w6_wr_0 2; conv at c_w6_wr_0_2 => rhs; simp [go_sem, *]
            have f_w6_wr_0_2 := f_w6_wr_0 2; conv at f_w6_wr_0_2 => rhs; simp [go_sem, *]
            have c6__0 := fun o => hb_w6.cell (p := ⟨w.heap.size, o, none⟩) (by first | omega | (simp <;> omega))
            have f6__0 := fun o => hb_w6.frozen (p := ⟨w.heap.size, o, none⟩) (by first | omega | (simp <;> omega))
            have c6__0_0 := c6__0 0; conv at c6__0_0 => rhs; simp [go_sem, *]
            have f6__0_0 := f6__0 0; conv at f6__0_0 => rhs; simp [go_sem, *]
            have c6__0_1 := c6__0 1; conv at c6__0_1 => rhs; simp [go_sem, *]
            have f6__0_1 := f6__0 1; conv at f6__0_1 => rhs; simp [go_sem, *]
            have c6__0_2 := c6__0 2; conv at c6__0_2 => rhs; simp [go_sem, *]
            have f6__0_2 := f6__0 2; conv at f6__0_2 => rhs; simp [go_sem, *]
            have HH_w6 := Lib.hid hb_w6
            have hB_w6 : Below wr.heap.size wr w6 := Below.trans (by (repeat (first | with_reducible exact Below.refl _ _ | with_reducible assumption | with_reducible refine Below.drew ?_ | (with_reducible refine Below.setCell ?_ ?_ _; rotate_left; (first | omega | (simp <;> omega))) | (with_reducible refine Below.alloc ?_ ?_ _; rotate_left; (first | omega | (simp <;> omega))) | exact Below.refl _ _ | assumption))) (hb_w6.mono (by first | omega | (simp <;> omega)))
            clear hb_w6 c_w6_wr_0 f_w6_wr_0 c6__0 f6__0
            have far_w6_wr_0 := far (show wr.heap.size < w6.heap.size by omega)
            have far_w6_w_0 := far (show w.heap.size < w6.heap.size by omega)
            go_wp2_with fail
            go_roundw
            case rel => exact ⟨k + 1, [], r1, r2, by go_num, by omega, HF3.out, by omega, by (try simp only [World.size_setCell]); omega, ⟨by simp [go_sem, *], by simp [go_sem, *], by simp [go_sem, *]⟩, ⟨by simp [go_sem, *], by simp [go_sem, *], by simp [go_sem, *]⟩, by (have := HB.out.trans (hB_w6.mono hzw); (repeat (first | with_reducible exact Below.refl _ _ | with_reducible assumption | with_reducible refine Below.drew ?_ | (with_reducible refine Below.setCell ?_ ?_ _; rotate_left; (first | omega | (simp <;> omega))) | (with_reducible refine Below.alloc ?_ ?_ _; rotate_left; (first | omega | (simp <;> omega))) | exact Below.refl _ _ | assumption)))⟩
            case measure => simp [intOf]; omega
          · have h1i : ¬ (b1.length : Int) < (r1.length : Int) := by omega
            have h1d : decide ((b1.length : Int) < (r1.length : Int)) = false := by simp; omega
            have z2 : decide (b1.length < r1.length) = false := decide_eq_false h1
            by_cases h2 : r1.length = b1.length
            · have h2b : ((r1.length : Int) == (b1.length : Int)) = true := by rw [h2]; simp
              have z3 : decide (r1.length = b1.length) = true := decide_eq_true h2
              clear h2
              cases hbe : b0.isEmpty with
              | true =>
                obtain rfl : b0 = [] := by simpa using hbe
                have HF3 := Lib.hid (show (L.drop (k + 1)).foldl (refStep host path) ([], r1, r2) = refBest L host path by have h := HF2.out; rw [if_pos (by simp only [List.isEmpty_nil, z1, htk, z2, z3, List.isEmpty_nil, Bool.true_or, Bool.or_true, Bool.false_or, Bool.or_false, Bool.true_and, Bool.and_true, Bool.false_and, Bool.and_false])] at h; exact h)
                clear HF2
                go_wp2_with fail
                refine wp_region_later (wr.heap.size + 1) (by kernel_rfl) (by kernel_rfl) ?_
                have l_w6_wr_0 := @Later.at (wr.heap.size + 1) (wr.heap.size) (by omega)
                have l_w6_w_0 := @Later.at (wr.heap.size + 1) (w.heap.size) (by omega)
                repeat (go_big_quiet_step (fail))
                refine wpQuiet_nil ?_
                rintro w6 ⟨⟨_, hb_w6⟩, rfl⟩
                clear l_w6_wr_0 l_w6_w_0
                try simp only [] at hb_w6 ⊢
                have hz_w6 := hb_w6.size
                try simp at hz_w6
                have c_w6_wr_0 := fun o => hb_w6.cell (p := ⟨wr.heap.size, o, none⟩) (by first | omega | (simp <;> omega))
                have f_w6_wr_0 := fun o => hb_w6.frozen (p := ⟨wr.heap.size, o, none⟩) (by first | omega | (simp <;> omega))
                have c_w6_wr_0_0 := c_w6_wr_0 0; conv at c_w6_wr_0_0 => rhs; simp [go_sem, *]
                have f_w6_wr_0_0 := f_w6_wr_0 0; conv at f_w6_wr_0_0 => rhs; simp [go_sem, *]
                have c_w6_wr_0_1 := c_w6_wr_0 1; conv at c_w6_wr_0_1 => rhs; simp [go_sem, *]
                have f_w6_wr_0_1 := f_w6_wr_0 1; conv at f_w6_wr_0_1 => rhs; simp [go_sem, *]
                have c_w6_wr_0_2 := c_w6_wr_0 2; conv at c_w6_wr_0_2 => rhs; simp [go_sem, *]
                have f_w6_wr_0_2 := f_w6_wr_0 2; conv at f_w6_wr_0_2 => rhs; simp [go_sem, *]
                have c6__0 := fun o => hb_w6.cell (p := ⟨w.heap.size, o, none⟩) (by first | omega | (simp <;> omega))
                have f6__0 := fun o => hb_w6.frozen (p := ⟨w.heap.size, o, none⟩) (by first | omega | (simp <;> omega))
                have c6__0_0 := c6__0 0; conv at c6__0_0 => rhs; simp [go_sem, *]
                have f6__0_0 := f6__0 0; conv at f6__0_0 => rhs; simp [go_sem, *]
                have c6__0_1 := c6__0 1; conv at c6__0_1 => rhs; simp [go_sem, *]
                have f6__0_1 := f6__0 1; conv at f6__0_1 => rhs; simp [go_sem, *]
                have c6__0_2 := c6__0 2; conv at c6__0_2 => rhs; simp [go_sem, *]
                have f6__0_2 := f6__0 2; conv at f6__0_2 => rhs; simp [go_sem, *]
                have HH_w6 := Lib.hid hb_w6
                have hB_w6 : Below wr.heap.size wr w6 := Below.trans (by (repeat (first | with_reducible exact Below.refl _ _ | with_reducible assumption | with_reducible refine Below.drew ?_ | (with_reducible refine Below.setCell ?_ ?_ _; rotate_left; (first | omega | (simp <;> omega))) | (with_reducible refine Below.alloc ?_ ?_ _; rotate_left; (first | omega | (simp <;> omega))) | exact Below.refl _ _ | assumption))) (hb_w6.mono (by first | omega | (simp <;> omega)))
                clear hb_w6 c_w6_wr_0 f_w6_wr_0 c6__0 f6__0
                have far_w6_wr_0 := far (show wr.heap.size < w6.heap.size by omega)
                have far_w6_w_0 := far (show w.heap.size < w6.heap.size by omega)
                go_wp2_with fail
                go_roundw
                case rel => exact ⟨k + 1, [], r1, r2, by go_num, by omega, HF3.out, by omega, by (try simp only [World.size_setCell]); omega, ⟨by simp [go_sem, *], by simp [go_sem, *], by simp [go_sem, *]⟩, ⟨by simp [go_sem, *], by simp [go_sem, *], by simp [go_sem, *]⟩, by (have := HB.out.trans (hB_w6.mono hzw); (repeat (first | with_reducible exact Below.refl _ _ | with_reducible assumption | with_reducible refine Below.drew ?_ | (with_reducible refine Below.setCell ?_ ?_ _; rotate_left; (first | omega | (simp <;> omega))) | (with_reducible refine Below.alloc ?_ ?_ _; rotate_left; (first | omega | (simp <;> omega))) | exact Below.refl _ _ | assumption)))⟩
                case measure => simp [intOf]; omega
              | false =>
                have hbb0 : (b0 == []) = false := by cases b0 with | nil => simp at hbe | cons a b => rfl
                have HF3 := Lib.hid (show (L.drop (k + 1)).foldl (refStep host path) (b0, b1, b2) = refBest L host path by have h := HF2.out; rw [if_neg (by simp only [List.isEmpty_nil, z1, htk, z2, z3, hbe, List.isEmpty_nil, Bool.true_or, Bool.or_true, Bool.false_or, Bool.or_false, Bool.true_and, Bool.and_true, Bool.false_and, Bool.and_false, Bool.false_eq_true, not_false_eq_true])] at h; exact h)
                clear HF2
                go_wp2_with fail
                refine wp_region_later (wr.heap.size + 1) (by kernel_rfl) (by kernel_rfl) ?_
                have l_w6_wr_0 := @Later.at (wr.heap.size + 1) (wr.heap.size) (by omega)
                have l_w6_w_0 := @Later.at (wr.heap.size + 1) (w.heap.size) (by omega)
                repeat (go_big_quiet_step (fail))
                refine wpQuiet_nil ?_
                rintro w6 ⟨⟨_, hb_w6⟩, rfl⟩
                clear l_w6_wr_0 l_w6_w_0
                try simp only [] at hb_w6 ⊢
                have hz_w6 := hb_w6.size
                try simp at hz_w6
                have c_w6_wr_0 := fun o => hb_w6.cell (p := ⟨wr.heap.size, o, none⟩) (by first | omega | (simp <;> omega))
                have f_w6_wr_0 := fun o => hb_w6.frozen (p := ⟨wr.heap.size, o, none⟩) (by first | omega | (simp <;> omega))
                have c_w6_wr_0_0 := c_w6_wr_0 0; conv at c_w6_wr_0_0 => rhs; simp [go_sem, *]
                have f_w6_wr_0_0 := f_w6_wr_0 0; conv at f_w6_wr_0_0 => rhs; simp [go_sem, *]
                have c_w6_wr_0_1 := c_w6_wr_0 1; conv at c_w6_wr_0_1 => rhs; simp [go_sem, *]
                have f_w6_wr_0_1 := f_w6_wr_0 1; conv at f_w6_wr_0_1 => rhs; simp [go_sem, *]
                have c_w6_wr_0_2 := c_w6_wr_0 2; conv at c_w6_wr_0_2 => rhs; simp [go_sem, *]
                have f_w6_wr_0_2 := f_w6_wr_0 2; conv at f_w6_wr_0_2 => rhs; simp [go_sem, *]
                have c6__0 := fun o => hb_w6.cell (p := ⟨w.heap.size, o, none⟩) (by first | omega | (simp <;> omega))
                have f6__0 := fun o => hb_w6.frozen (p := ⟨w.heap.size, o, none⟩) (by first | omega | (simp <;> omega))
                have c6__0_0 := c6__0 0; conv at c6__0_0 => rhs; simp [go_sem, *]
                have f6__0_0 := f6__0 0; conv at f6__0_0 => rhs; simp [go_sem, *]
                have c6__0_1 := c6__0 1; conv at c6__0_1 => rhs; simp [go_sem, *]
                have f6__0_1 := f6__0 1; conv at f6__0_1 => rhs; simp [go_sem, *]
                have c6__0_2 := c6__0 2; conv at c6__0_2 => rhs; simp [go_sem, *]
                have f6__0_2 := f6__0 2; conv at f6__0_2 => rhs; simp [go_sem, *]
                have HH_w6 := Lib.hid hb_w6
                have hB_w6 : Below wr.heap.size wr w6 := Below.trans (by (repeat (first | with_reducible exact Below.refl _ _ | with_reducible assumption | with_reducible refine Below.drew ?_ | (with_reducible refine Below.setCell ?_ ?_ _; rotate_left; (first | omega | (simp <;> omega))) | (with_reducible refine Below.alloc ?_ ?_ _; rotate_left; (first | omega | (simp <;> omega))) | exact Below.refl _ _ | assumption))) (hb_w6.mono (by first | omega | (simp <;> omega)))
                clear hb_w6 c_w6_wr_0 f_w6_wr_0 c6__0 f6__0
                have far_w6_wr_0 := far (show wr.heap.size < w6.heap.size by omega)
                have far_w6_w_0 := far (show w.heap.size < w6.heap.size by omega)
                go_wp2_with fail
                go_roundw
                case rel => exact ⟨k + 1, b0, b1, b2, by go_num, by omega, HF3.out, by omega, by (try simp only [World.size_setCell]); omega, ⟨by simp [go_sem, *], by simp [go_sem, *], by simp [go_sem, *]⟩, ⟨by simp [go_sem, *], by simp [go_sem, *], by simp [go_sem, *]⟩, by (have := HB.out.trans (hB_w6.mono hzw); (repeat (first | with_reducible exact Below.refl _ _ | with_reducible assumption | with_reducible refine Below.drew ?_ | (with_reducible refine Below.setCell ?_ ?_ _; rotate_left; (first | omega | (simp <;> omega))) | (with_reducible refine Below.alloc ?_ ?_ _; rotate_left; (first | omega | (simp <;> omega))) | exact Below.refl _ _ | assumption)))⟩
                case measure => simp [intOf]; omega
            · have h2b : ((r1.length : Int) == (b1.length : Int)) = false := by simp; omega
              have z3 : decide (r1.length = b1.length) = false := decide_eq_false h2
              clear h2
              have HF3 := Lib.hid (show (L.drop (k + 1)).foldl (refStep host path) (b0, b1, b2) = refBest L host path by have h := HF2.out; rw [if_neg (by simp only [List.isEmpty_nil, z1, htk, z2, z3, List.isEmpty_nil, Bool.true_or, Bool.or_true, Bool.false_or, Bool.or_false, Bool.true_and, Bool.and_true, Bool.false_and, Bool.and_false, Bool.false_eq_true, not_false_eq_true])] at h; exact h)
              clear HF2
              go_wp2_with fail
              refine wp_region_later (wr.heap.size + 1) (by kernel_rfl) (by kernel_rfl) ?_
              have l_w6_wr_0 := @Later.at (wr.heap.size + 1) (wr.heap.size) (by omega)
              have l_w6_w_0 := @Later.at (wr.heap.size + 1) (w.heap.size) (by omega)
              repeat (go_big_quiet_step (fail))
              refine wpQuiet_nil ?_
              rintro w6 ⟨⟨_, hb_w6⟩, rfl⟩
              clear l_w6_wr_0 l_w6_w_0
              try simp only [] at hb_w6 ⊢
              have hz_w6 := hb_w6.size
              try simp at hz_w6
              have c_w6_wr_0 := fun o => hb_w6.cell (p := ⟨wr.heap.size, o, none⟩) (by first | omega | (simp <;> omega))
              have f_w6_wr_0 := fun o => hb_w6.frozen (p := ⟨wr.heap.size, o, none⟩) (by first | omega | (simp <;> omega))
              have c_w6_wr_0_0 := c_w6_wr_0 0; conv at c_w6_wr_0_0 => rhs; simp [go_sem, *]
              have f_w6_wr_0_0 := f_w6_wr_0 0; conv at f_w6_wr_0_0 => rhs; simp [go_sem, *]
              have c_w6_wr_0_1 := c_w6_wr_0 1; conv at c_w6_wr_0_1 => rhs; simp [go_sem, *]
              have f_w6_wr_0_1 := f_w6_wr_0 1; conv at f_w6_wr_0_1 => rhs; simp [go_sem, *]
              have c_w6_wr_0_2 := c_w6_wr_0 2; conv at c_w6_wr_0_2 => rhs; simp [go_sem, *]
              have f_w6_wr_0_2 := f_w6_wr_0 2; conv at f_w6_wr_0_2 => rhs; simp [go_sem, *]
              have c6__0 := fun o => hb_w6.cell (p := ⟨w.heap.size, o, none⟩) (by first | omega | (simp <;> omega))
              have f6__0 := fun o => hb_w6.frozen (p := ⟨w.heap.size, o, none⟩) (by first | omega | (simp <;> omega))
              have c6__0_0 := c6__0 0; conv at c6__0_0 => rhs; simp [go_sem, *]
              have f6__0_0 := f6__0 0; conv at f6__0_0 => rhs; simp [go_sem, *]
              have c6__0_1 := c6__0 1; conv at c6__0_1 => rhs; simp [go_sem, *]
              have f6__0_1 := f6__0 1; conv at f6__0_1 => rhs; simp [go_sem, *]
              have c6__0_2 := c6__0 2; conv at c6__0_2 => rhs; simp [go_sem, *]
              have f6__0_2 := f6__0 2; conv at f6__0_2 => rhs; simp [go_sem, *]
              have HH_w6 := Lib.hid hb_w6
              have hB_w6 : Below wr.heap.size wr w6 := Below.trans (by (repeat (first | with_reducible exact Below.refl _ _ | with_reducible assumption | with_reducible refine Below.drew ?_ | (with_reducible refine Below.setCell ?_ ?_ _; rotate_left; (first | omega | (simp <;> omega))) | (with_reducible refine Below.alloc ?_ ?_ _; rotate_left; (first | omega | (simp <;> omega))) | exact Below.refl _ _ | assumption))) (hb_w6.mono (by first | omega | (simp <;> omega)))
              clear hb_w6 c_w6_wr_0 f_w6_wr_0 c6__0 f6__0
              have far_w6_wr_0 := far (show wr.heap.size < w6.heap.size by omega)
              have far_w6_w_0 := far (show w.heap.size < w6.heap.size by omega)
              go_wp2_with fail
              go_roundw
              case rel => exact ⟨k + 1, b0, b1, b2, by go_num, by omega, HF3.out, by omega, by (try simp only [World.size_setCell]); omega, ⟨by simp [go_sem, *], by simp [go_sem, *], by simp [go_sem, *]⟩, ⟨by simp [go_sem, *], by simp [go_sem, *], by simp [go_sem, *]⟩, by (have := HB.out.trans (hB_w6.mono hzw); (repeat (first | with_reducible exact Below.refl _ _ | with_reducible assumption | with_reducible refine Below.drew ?_ | (with_reducible refine Below.setCell ?_ ?_ _; rotate_left; (first | omega | (simp <;> omega))) | (with_reducible refine Below.alloc ?_ ?_ _; rotate_left; (first | omega | (simp <;> omega))) | exact Below.refl _ _ | assumption)))⟩
              case measure => simp [intOf]; omega
      | false =>
        have hrb : (r0 == []) = false := by cases r0 with | nil => simp at hre | cons a b => rfl
        cases hrh : (r0 == host) with
        | false =>
          have HF3 := Lib.hid (show (L.drop (k + 1)).foldl (refStep host path) (b0, b1, b2) = refBest L host path by have h := HF2.out; rw [if_neg (by simp only [hre, hrh, List.isEmpty_nil, Bool.true_or, Bool.or_true, Bool.false_or, Bool.or_false, Bool.true_and, Bool.and_true, Bool.false_and, Bool.and_false, Bool.false_eq_true, not_false_eq_true])] at h; exact h)
          clear HF2
          go_wp2_with fail
          refine wp_region_later (wr.heap.size + 1) (by kernel_rfl) (by kernel_rfl) ?_
          have l_w6_wr_0 := @Later.at (wr.heap.size + 1) (wr.heap.size) (by omega)
          have l_w6_w_0 := @Later.at (wr.heap.size + 1) (w.heap.size) (by omega)
          repeat (go_big_quiet_step (fail))
          refine wpQuiet_nil ?_
          rintro w6 ⟨⟨_, hb_w6⟩, rfl⟩
          clear l_w6_wr_0 l_w6_w_0
          try simp only [] at hb_w6 ⊢
          have hz_w6 := hb_w6.size
          try simp at hz_w6
          have c_w6_wr_0 := fun o => hb_w6.cell (p := ⟨wr.heap.size, o, none⟩) (by first | omega | (simp <;> omega))
          have f_w6_wr_0 := fun o => hb_w6.frozen (p := ⟨wr.heap.size, o, none⟩) (by first | omega | (simp <;> omega))
          have c_w6_wr_0_0 := c_w6_wr_0 0; conv at c_w6_wr_0_0 => rhs; simp [go_sem, *]
          have f_w6_wr_0_0 := f_w6_wr_0 0; conv at f_w6_wr_0_0 => rhs; simp [go_sem, *]
          have c_w6_wr_0_1 := c_w6_wr_0 1; conv at c_w6_wr_0_1 => rhs; simp [go_sem, *]
          have f_w6_wr_0_1 := f_w6_wr_0 1; conv at f_w6_wr_0_1 => rhs; simp [go_sem, *]
          have c_w6_wr_0_2 := c_w6_wr_0 2; conv at c_w6_wr_0_2 => rhs; simp [go_sem, *]
          have f_w6_wr_0_2 := f_w6_wr_0 2; conv at f_w6_wr_0_2 => rhs; simp [go_sem, *]
          have c6__0 := fun o => hb_w6.cell (p := ⟨w.heap.size, o, none⟩) (by first | omega | (simp <;> omega))
          have f6__0 := fun o => hb_w6.frozen (p := ⟨w.heap.size, o, none⟩) (by first | omega | (simp <;> omega))
          have c6__0_0 := c6__0 0; conv at c6__0_0 => rhs; simp [go_sem, *]
          have f6__0_0 := f6__0 0; conv at f6__0_0 => rhs; simp [go_sem, *]
          have c6__0_1 := c6__0 1; conv at c6__0_1 => rhs; simp [go_sem, *]
          have f6__0_1 := f6__0 1; conv at f6__0_1 => rhs; simp [go_sem, *]
          have c6__0_2 := c6__0 2; conv at c6__0_2 => rhs; simp [go_sem, *]
          have f6__0_2 := f6__0 2; conv at f6__0_2 => rhs; simp [go_sem, *]
          have HH_w6 := Lib.hid hb_w6
          have hB_w6 : Below wr.heap.size wr w6 := Below.trans (by (repeat (first | with_reducible exact Below.refl _ _ | with_reducible assumption | with_reducible refine Below.drew ?_ | (with_reducible refine Below.setCell ?_ ?_ _; rotate_left; (first | omega | (simp <;> omega))) | (with_reducible refine Below.alloc ?_ ?_ _; rotate_left; (first | omega | (simp <;> omega))) | exact Below.refl _ _ | assumption))) (hb_w6.mono (by first | omega | (simp <;> omega)))
          clear hb_w6 c_w6_wr_0 f_w6_wr_0 c6__0 f6__0
          have far_w6_wr_0 := far (show wr.heap.size < w6.heap.size by omega)
          have far_w6_w_0 := far (show w.heap.size < w6.heap.size by omega)
          go_wp2_with fail
          go_roundw
          case rel => exact ⟨k + 1, b0, b1, b2, by go_num, by omega, HF3.out, by omega, by (try simp only [World.size_setCell]); omega, ⟨by simp [go_sem, *], by simp [go_sem, *], by simp [go_sem, *]⟩, ⟨by simp [go_sem, *], by simp [go_sem, *], by simp [go_sem, *]⟩, by (have := HB.out.trans (hB_w6.mono hzw); (repeat (first | with_reducible exact Below.refl _ _ | with_reducible assumption | with_reducible refine Below.drew ?_ | (with_reducible refine Below.setCell ?_ ?_ _; rotate_left; (first | omega | (simp <;> omega))) | (with_reducible refine Below.alloc ?_ ?_ _; rotate_left; (first | omega | (simp <;> omega))) | exact Below.refl _ _ | assumption)))⟩
          case measure => simp [intOf]; omega
        | true =>
          by_cases hn : r1.length ≤ path.length
          rotate_left
          · have hni : ¬ (r1.length : Int) ≤ (path.length : Int) := by omega
            have hnd : decide ((r1.length : Int) ≤ (path.length : Int)) = false := by simp; omega
            have z1 : decide (r1.length ≤ path.length) = false := decide_eq_false hn
            have hnn : path.length < r1.length := by omega
            have HF3 := Lib.hid (show (L.drop (k + 1)).foldl (refStep host path) (b0, b1, b2) = refBest L host path by have h := HF2.out; rw [if_neg (by simp only [hre, hrh, z1, List.isEmpty_nil, Bool.true_or, Bool.or_true, Bool.false_or, Bool.or_false, Bool.true_and, Bool.and_true, Bool.false_and, Bool.and_false, Bool.false_eq_true, not_false_eq_true])] at h; exact h)
            clear HF2
            go_wp2_with fail
            refine wp_region_later (wr.heap.size + 1) (by kernel_rfl) (by kernel_rfl) ?_
            have l_w6_wr_0 := @Later.at (wr.heap.size + 1) (wr.heap.size) (by omega)
            have l_w6_w_0 := @Later.at (wr.heap.size + 1) (w.heap.size) (by omega)
            repeat (go_big_quiet_step (fail))
            refine wpQuiet_nil ?_
            rintro w6 ⟨⟨_, hb_w6⟩, rfl⟩
            clear l_w6_wr_0 l_w6_w_0
            try simp only [] at hb_w6 ⊢
            have hz_w6 := hb_w6.size
            try simp at hz_w6
            have c_w6_wr_0 := fun o => hb_w6.cell (p := ⟨wr.heap.size, o, none⟩) (by first | omega | (simp <;> omega))
            have f_w6_wr_0 := fun o => hb_w6.frozen (p := ⟨wr.heap.size, o, none⟩) (by first | omega | (simp <;> omega))
            have c_w6_wr_0_0 := c_w6_wr_0 0; conv at c_w6_wr_0_0 => rhs; simp [go_sem, *]
            have f_w6_wr_0_0 := f_w6_wr_0 0; conv at f_w6_wr_0_0 => rhs; simp [go_sem, *]
            have c_w6_wr_0_1 := c_w6_wr_0 1; conv at c_w6_wr_0_1 => rhs; simp [go_sem, *]
            have f_w6_wr_0_1 := f_w6_wr_0 1; conv at f_w6_wr_0_1 => rhs; simp [go_sem, *]
            have c_w6_wr_0_2 := c_w6_wr_0 2; conv at c_w6_wr_0_2 => rhs; simp [go_sem, *]
            have f_w6_wr_0_2 := f_w6_wr_0 2; conv at f_w6_wr_0_2 => rhs; simp [go_sem, *]
            have c6__0 := fun o => hb_w6.cell (p := ⟨w.heap.size, o, none⟩) (by first | omega | (simp <;> omega))
            have f6__0 := fun o => hb_w6.frozen (p := ⟨w.heap.size, o, none⟩) (by first | omega | (simp <;> omega))
            have c6__0_0 := c6__0 0; conv at c6__0_0 => rhs; simp [go_sem, *]
            have f6__0_0 := f6__0 0; conv at f6__0_0 => rhs; simp [go_sem, *]
            have c6__0_1 := c6__0 1; conv at c6__0_1 => rhs; simp [go_sem, *]
            have f6__0_1 := f6__0 1; conv at f6__0_1 => rhs; simp [go_sem, *]
            have c6__0_2 := c6__0 2; conv at c6__0_2 => rhs; simp [go_sem, *]
            have f6__0_2 := f6__0 2; conv at f6__0_2 => rhs; simp [go_sem, *]
            have HH_w6 := Lib.hid hb_w6
            have hB_w6 : Below wr.heap.size wr w6 := Below.trans (by (repeat (first | with_reducible exact Below.refl _ _ | with_reducible assumption | with_reducible refine Below.drew ?_ | (with_reducible refine Below.setCell ?_ ?_ _; rotate_left; (first | omega | (simp <;> omega))) | (with_reducible refine Below.alloc ?_ ?_ _; rotate_left; (first | omega | (simp <;> omega))) | exact Below.refl _ _ | assumption))) (hb_w6.mono (by first | omega | (simp <;> omega)))
            clear hb_w6 c_w6_wr_0 f_w6_wr_0 c6__0 f6__0
            have far_w6_wr_0 := far (show wr.heap.size < w6.heap.size by omega)
            have far_w6_w_0 := far (show w.heap.size < w6.heap.size by omega)
            go_wp2_with fail
            go_roundw
            case rel => exact ⟨k + 1, b0, b1, b2, by go_num, by omega, HF3.out, by omega, by (try simp only [World.size_setCell]); omega, ⟨by simp [go_sem, *], by simp [go_sem, *], by simp [go_sem, *]⟩, ⟨by simp [go_sem, *], by simp [go_sem, *], by simp [go_sem, *]⟩, by (have := HB.out.trans (hB_w6.mono hzw); (repeat (first | with_reducible exact Below.refl _ _ | with_reducible assumption | with_reducible refine Below.drew ?_ | (with_reducible refine Below.setCell ?_ ?_ _; rotate_left; (first | omega | (simp <;> omega))) | (with_reducible refine Below.alloc ?_ ?_ _; rotate_left; (first | omega | (simp <;> omega))) | exact Below.refl _ _ | assumption)))⟩
            case measure => simp [intOf]; omega
          have hni : (r1.length : Int) ≤ (path.length : Int) := by omega
          have hnd : decide ((r1.length : Int) ≤ (path.length : Int)) = true := by simp; omega
          have z1 : decide (r1.length ≤ path.length) = true := decide_eq_true hn
          cases htk : (path.take r1.length == r1) with
          | false =>
            have HF3 := Lib.hid (show (L.drop (k + 1)).foldl (refStep host path) (b0, b1, b2) = refBest L host path by have h := HF2.out; rw [if_neg (by simp only [hre, hrh, z1, htk, List.isEmpty_nil, Bool.true_or, Bool.or_true, Bool.false_or, Bool.or_false, Bool.true_and, Bool.and_true, Bool.false_and, Bool.and_false, Bool.false_eq_true, not_false_eq_true])] at h; exact h)
            clear HF2
            go_wp2_with fail
            refine wp_region_later (wr.heap.size + 1) (by kernel_rfl) (by kernel_rfl) ?_
            have l_w6_wr_0 := @Later.at (wr.heap.size + 1) (wr.heap.size) (by omega)
            have l_w6_w_0 := @Later.at (wr.heap.size + 1) (w.heap.size) (by omega)
            repeat (go_big_quiet_step (fail))
            refine wpQuiet_nil ?_
            rintro w6 ⟨⟨_, hb_w6⟩, rfl⟩
            clear l_w6_wr_0 l_w6_w_0
            try simp only [] at hb_w6 ⊢
            have hz_w6 := hb_w6.size
            try simp at hz_w6
            have c_w6_wr_0 := fun o => hb_w6.cell (p := ⟨wr.heap.size, o, none⟩) (by first | omega | (simp <;> omega))
            have f_w6_wr_0 := fun o => hb_w6.frozen (p := ⟨wr.heap.size, o, none⟩) (by first | omega | (simp <;> omega))
            have c_w6_wr_0_0 := c_w6_wr_0 0; conv at c_w6_wr_0_0 => rhs; simp [go_sem, *]
            have f_w6_wr_0_0 := f_w6_wr_0 0; conv at f_w6_wr_0_0 => rhs; simp [go_sem, *]
            have c_w6_wr_0_1 := c_w6_wr_0 1; conv at c_w6_wr_0_1 => rhs; simp [go_sem, *]
            have f_w6_wr_0_1 := f_w6_wr_0 1; conv at f_w6_wr_0_1 => rhs; simp [go_sem, *]
            have c_w6_wr_0_2 := c_w6_wr_0 2; conv at c_w6_wr_0_2 => rhs; simp [go_sem, *]
            have f_w6_wr_0_2 := f_w6_wr_0 2; conv at f_w6_wr_0_2 => rhs; simp [go_sem, *]
            have c6__0 := fun o => hb_w6.cell (p := ⟨w.heap.size, o, none⟩) (by first | omega | (simp <;> omega))
            have f6__0 := fun o => hb_w6.frozen (p := ⟨w.heap.size, o, none⟩) (by first | omega | (simp <;> omega))
            have c6__0_0 := c6__0 0; conv at c6__0_0 => rhs; simp [go_sem, *]
            have f6__0_0 := f6__0 0; conv at f6__0_0 => rhs; simp [go_sem, *]
            have c6__0_1 := c6__0 1; conv at c6__0_1 => rhs; simp [go_sem, *]
            have f6__0_1 := f6__0 1; conv at f6__0_1 => rhs; simp [go_sem, *]
            have c6__0_2 := c6__0 2; conv at c6__0_2 => rhs; simp [go_sem, *]
            have f6__0_2 := f6__0 2; conv at f6__0_2 => rhs; simp [go_sem, *]
            have HH_w6 := Lib.hid hb_w6
            have hB_w6 : Below wr.heap.size wr w6 := Below.trans (by (repeat (first | with_reducible exact Below.refl _ _ | with_reducible assumption | with_reducible refine Below.drew ?_ | (with_reducible refine Below.setCell ?_ ?_ _; rotate_left; (first | omega | (simp <;> omega))) | (with_reducible refine Below.alloc ?_ ?_ _; rotate_left; (first | omega | (simp <;> omega))) | exact Below.refl _ _ | assumption))) (hb_w6.mono (by first | omega | (simp <;> omega)))
            clear hb_w6 c_w6_wr_0 f_w6_wr_0 c6__0 f6__0
            have far_w6_wr_0 := far (show wr.heap.size < w6.heap.size by omega)
            have far_w6_w_0 := far (show w.heap.size < w6.heap.size by omega)
            go_wp2_with fail
            go_roundw
            case rel => exact ⟨k + 1, b0, b1, b2, by go_num, by omega, HF3.out, by omega, by (try simp only [World.size_setCell]); omega, ⟨by simp [go_sem, *], by simp [go_sem, *], by simp [go_sem, *]⟩, ⟨by simp [go_sem, *], by simp [go_sem, *], by simp [go_sem, *]⟩, by (have := HB.out.trans (hB_w6.mono hzw); (repeat (first | with_reducible exact Below.refl _ _ | with_reducible assumption | with_reducible refine Below.drew ?_ | (with_reducible refine Below.setCell ?_ ?_ _; rotate_left; (first | omega | (simp <;> omega))) | (with_reducible refine Below.alloc ?_ ?_ _; rotate_left; (first | omega | (simp <;> omega))) | exact Below.refl _ _ | assumption)))⟩
            case measure => simp [intOf]; omega
          | true =>
            by_cases h1 : b1.length < r1.length
            · have h1i : (b1.length : Int) < (r1.length : Int) := by omega
              have h1d : decide ((b1.length : Int) < (r1.length : Int)) = true := by simp; omega
              have z2 : decide (b1.length < r1.length) = true := decide_eq_true h1
              have HF3 := Lib.hid (show (L.drop (k + 1)).foldl (refStep host path) (r0, r1, r2) = refBest L host path by have h := HF2.out; rw [if_pos (by simp only [hre, hrh, z1, htk, z2, List.isEmpty_nil, Bool.true_or, Bool.or_true, Bool.false_or, Bool.or_false, Bool.true_and, Bool.and_true, Bool.false_and, Bool.and_false])] at h; exact h)
              clear HF2
              go_wp2_with fail
              refine wp_region_later (wr.heap.size + 1) (by kernel_rfl) (by kernel_rfl) ?_
              have l_w6_wr_0 := @Later.at (wr.heap.size + 1) (wr.heap.size) (by omega)
              have l_w6_w_0 := @Later.at (wr.heap.size + 1) (w.heap.size) (by omega)
              repeat (go_big_quiet_step (fail))
              refine wpQuiet_nil ?_
              rintro w6 ⟨⟨_, hb_w6⟩, rfl⟩
              clear l_w6_wr_0 l_w6_w_0
              try simp only [] at hb_w6 ⊢
              have hz_w6 := hb_w6.size
              try simp at hz_w6
              have c_w6_wr_0 := fun o => hb_w6.cell (p := ⟨wr.heap.size, o, none⟩) (by first | omega | (simp <;> omega))
              have f_w6_wr_0 := fun o => hb_w6.frozen (p := ⟨wr.heap.size, o, none⟩) (by first | omega | (simp <;> omega))
              have c_w6_wr_0_0 := c_w6_wr_0 0; conv at c_w6_wr_0_0 => rhs; simp [go_sem, *]
              have f_w6_wr_0_0 := f_w6_wr_0 0; conv at f_w6_wr_0_0 => rhs; simp [go_sem, *]
              have c_w6_wr_0_1 := c_w6_wr_0 1; conv at c_w6_wr_0_1 => rhs; simp [go_sem, *]
              have f_w6_wr_0_1 := f_w6_wr_0 1; conv at f_w6_wr_0_1 => rhs; simp [go_sem, *]
              have c_w6_wr_0_2 := c_w6_wr_0 2; conv at c_w6_wr_0_2 => rhs; simp [go_sem, *]
              have f_w6_wr_0_2 := f_w6_wr_0 2; conv at f_w6_wr_0_2 => rhs; simp [go_sem, *]
              have c6__0 := fun o => hb_w6.cell (p := ⟨w.heap.size, o, none⟩) (by first | omega | (simp <;> omega))
              have f6__0 := fun o => hb_w6.frozen (p := ⟨w.heap.size, o, none⟩) (by first | omega | (simp <;> omega))
              have c6__0_0 := c6__0 0; conv at c6__0_0 => rhs; simp [go_sem, *]
              have f6__0_0 := f6__0 0; conv at f6__0_0 => rhs; simp [go_sem, *]
              have c6__0_1 := c6__0 1; conv at c6__0_1 => rhs; simp [go_sem, *]
              have f6__0_1 := f6__0 1; conv at f6__0_1 => rhs; simp [go_sem, *]
              have c6__0_2 := c6__0 2; conv at c6__0_2 => rhs; simp [go_sem, *]
              have f6__0_2 := f6__0 2; conv at f6__0_2 => rhs; simp [go_sem, *]
              have HH_w6 := Lib.hid hb_w6
              have hB_w6 : Below wr.heap.size wr w6 := Below.trans (by (repeat (first | with_reducible exact Below.refl _ _ | with_reducible assumption | with_reducible refine Below.drew ?_ | (with_reducible refine Below.setCell ?_ ?_ _; rotate_left; (first | omega | (simp <;> omega))) | (with_reducible refine Below.alloc ?_ ?_ _; rotate_left; (first | omega | (simp <;> omega))) | exact Below.refl _ _ | assumption))) (hb_w6.mono (by first | omega | (simp <;> omega)))
              clear hb_w6 c_w6_wr_0 f_w6_wr_0 c6__0 f6__0
              have far_w6_wr_0 := far (show wr.heap.size < w6.heap.size by omega)
              have far_w6_w_0 := far (show w.heap.size < w6.heap.size by omega)
              go_wp2_with fail
              go_roundw
              case rel => exact ⟨k + 1, r0, r1, r2, by go_num, by omega, HF3.out, by omega, by (try simp only [World.size_setCell]); omega, ⟨by simp [go_sem, *], by simp [go_sem, *], by simp [go_sem, *]⟩, ⟨by simp [go_sem, *], by simp [go_sem, *], by simp [go_sem, *]⟩, by (have := HB.out.trans (hB_w6.mono hzw); (repeat (first | with_reducible exact Below.refl _ _ | with_reducible assumption | with_reducible refine Below.drew ?_ | (with_reducible refine Below.setCell ?_ ?_ _; rotate_left; (first | omega | (simp <;> omega))) | (with_reducible refine Below.alloc ?_ ?_ _; rotate_left; (first | omega | (simp <;> omega))) | exact Below.refl _ _ | assumption)))⟩
              case measure => simp [intOf]; omega
            · have h1i : ¬ (b1.length : Int) < (r1.length : Int) := by omega
              have h1d : decide ((b1.length : Int) < (r1.length : Int)) = false := by simp; omega
              have z2 : decide (b1.length < r1.length) = false := decide_eq_false h1
              by_cases h2 : r1.length = b1.length
              · have h2b : ((r1.length : Int) == (b1.length : Int)) = true := by rw [h2]; simp
                have z3 : decide (r1.length = b1.length) = true := decide_eq_true h2
                clear h2
                cases hbe : b0.isEmpty with
                | true =>
                  obtain rfl : b0 = [] := by simpa using hbe
                  have HF3 := Lib.hid (show (L.drop (k + 1)).foldl (refStep host path) (r0, r1, r2) = refBest L host path by have h := HF2.out; rw [if_pos (by simp only [hre, hrh, z1, htk, z2, z3, List.isEmpty_nil, Bool.true_or, Bool.or_true, Bool.false_or, Bool.or_false, Bool.true_and, Bool.and_true, Bool.false_and, Bool.and_false])] at h; exact h)
                  clear HF2
                  go_wp2_with fail
                  refine wp_region_later (wr.heap.size + 1) (by kernel_rfl) (by kernel_rfl) ?_
                  have l_w6_wr_0 := @Later.at (wr.heap.size + 1) (wr.heap.size) (by omega)
                  have l_w6_w_0 := @Later.at (wr.heap.size + 1) (w.heap.size) (by omega)
                  repeat (go_big_quiet_step (fail))
                  refine wpQuiet_nil ?_
                  rintro w6 ⟨⟨_, hb_w6⟩, rfl⟩
                  clear l_w6_wr_0 l_w6_w_0
                  try simp only [] at hb_w6 ⊢
                  have hz_w6 := hb_w6.size
                  try simp at hz_w6
                  have c_w6_wr_0 := fun o => hb_w6.cell (p := ⟨wr.heap.size, o, none⟩) (by first | omega | (simp <;> omega))
                  have f_w6_wr_0 := fun o => hb_w6.frozen (p := ⟨wr.heap.size, o, none⟩) (by first | omega | (simp <;> omega))
                  have c_w6_wr_0_0 := c_w6_wr_0 0; conv at c_w6_wr_0_0 => rhs; simp [go_sem, *]
                  have f_w6_wr_0_0 := f_w6_wr_0 0; conv at f_w6_wr_0_0 => rhs; simp [go_sem, *]
                  have c_w6_wr_0_1 := c_w6_wr_0 1; conv at c_w6_wr_0_1 => rhs; simp [go_sem, *]
                  have f_w6_wr_0_1 := f_w6_wr_0 1; conv at f_w6_wr_0_1 => rhs; simp [go_sem, *]
                  have c_w6_wr_0_2 := c_w6_wr_0 2; conv at c_w6_wr_0_2 => rhs; simp [go_sem, *]
                  have f_w6_wr_0_2 := f_w6_wr_0 2; conv at f_w6_wr_0_2 => rhs; simp [go_sem, *]
                  have c6__0 := fun o => hb_w6.cell (p := ⟨w.heap.size, o, none⟩) (by first | omega | (simp <;> omega))
                  have f6__0 := fun o => hb_w6.frozen (p := ⟨w.heap.size, o, none⟩) (by first | omega | (simp <;> omega))
                  have c6__0_0 := c6__0 0; conv at c6__0_0 => rhs; simp [go_sem, *]
                  have f6__0_0 := f6__0 0; conv at f6__0_0 => rhs; simp [go_sem, *]
                  have c6__0_1 := c6__0 1; conv at c6__0_1 => rhs; simp [go_sem, *]
                  have f6__0_1 := f6__0 1; conv at f6__0_1 => rhs; simp [go_sem, *]
                  have c6__0_2 := c6__0 2; conv at c6__0_2 => rhs; simp [go_sem, *]
                  have f6__0_2 := f6__0 2; conv at f6__0_2 => rhs; simp [go_sem, *]
                  have HH_w6 := Lib.hid hb_w6
                  have hB_w6 : Below wr.heap.size wr w6 := Below.trans (by (repeat (first | with_reducible exact Below.refl _ _ | with_reducible assumption | with_reducible refine Below.drew ?_ | (with_reducible refine Below.setCell ?_ ?_ _; rotate_left; (first | omega | (simp <;> omega))) | (with_reducible refine Below.alloc ?_ ?_ _; rotate_left; (first | omega | (simp <;> omega))) | exact Below.refl _ _ | assumption))) (hb_w6.mono (by first | omega | (simp <;> omega)))
                  clear hb_w6 c_w6_wr_0 f_w6_wr_0 c6__0 f6__0
                  have far_w6_wr_0 := far (show wr.heap.size < w6.heap.size by omega)
                  have far_w6_w_0 := far (show w.heap.size < w6.heap.size by omega)
                  go_wp2_with fail
                  go_roundw
                  case rel => exact ⟨k + 1, r0, r1, r2, by go_num, by omega, HF3.out, by omega, by (try simp only [World.size_setCell]); omega, ⟨by simp [go_sem, *], by simp [go_sem, *], by simp [go_sem, *]⟩, ⟨by simp [go_sem, *], by simp [go_sem, *], by simp [go_sem, *]⟩, by (have := HB.out.trans (hB_w6.mono hzw); (repeat (first | with_reducible exact Below.refl _ _ | with_reducible assumption | with_reducible refine Below.drew ?_ | (with_reducible refine Below.setCell ?_ ?_ _; rotate_left; (first | omega | (simp <;> omega))) | (with_reducible refine Below.alloc ?_ ?_ _; rotate_left; (first | omega | (simp <;> omega))) | exact Below.refl _ _ | assumption)))⟩
                  case measure => simp [intOf]; omega
                | false =>
                  have hbb0 : (b0 == []) = false := by cases b0 with | nil => simp at hbe | cons a b => rfl
                  have HF3 := Lib.hid (show (L.drop (k + 1)).foldl (refStep host path) (b0, b1, b2) = refBest L host path by have h := HF2.out; rw [if_neg (by simp only [hre, hrh, z1, htk, z2, z3, hbe, List.isEmpty_nil, Bool.true_or, Bool.or_true, Bool.false_or, Bool.or_false, Bool.true_and, Bool.and_true, Bool.false_and, Bool.and_false, Bool.false_eq_true, not_false_eq_true])] at h; exact h)
                  clear HF2
                  go_wp2_with fail
                  refine wp_region_later (wr.heap.size + 1) (by kernel_rfl) (by kernel_rfl) ?_
                  have l_w6_wr_0 := @Later.at (wr.heap.size + 1) (wr.heap.size) (by omega)
                  have l_w6_w_0 := @Later.at (wr.heap.size + 1) (w.heap.size) (by omega)
                  repeat (go_big_quiet_step (fail))
                  refine wpQuiet_nil ?_
                  rintro w6 ⟨⟨_, hb_w6⟩, rfl⟩
                  clear l_w6_wr_0 l_w6_w_0
                  try simp only [] at hb_w6 ⊢
                  have hz_w6 := hb_w6.size
                  try simp at hz_w6
                  have c_w6_wr_0 := fun o => hb_w6.cell (p := ⟨wr.heap.size, o, none⟩) (by first | omega | (simp <;> omega))
                  have f_w6_wr_0 := fun o => hb_w6.frozen (p := ⟨wr.heap.size, o, none⟩) (by first | omega | (simp <;> omega))
                  have c_w6_wr_0_0 := c_w6_wr_0 0; conv at c_w6_wr_0_0 => rhs; simp [go_sem, *]
                  have f_w6_wr_0_0 := f_w6_wr_0 0; conv at f_w6_wr_0_0 => rhs; simp [go_sem, *]
                  have c_w6_wr_0_1 := c_w6_wr_0 1; conv at c_w6_wr_0_1 => rhs; simp [go_sem, *]
                  have f_w6_wr_0_1 := f_w6_wr_0 1; conv at f_w6_wr_0_1 => rhs; simp [go_sem, *]
                  have c_w6_wr_0_2 := c_w6_wr_0 2; conv at c_w6_wr_0_2 => rhs; simp [go_sem, *]
                  have f_w6_wr_0_2 := f_w6_wr_0 2; conv at f_w6_wr_0_2 => rhs; simp [go_sem, *]
                  have c6__0 := fun o => hb_w6.cell (p := ⟨w.heap.size, o, none⟩) (by first | omega | (simp <;> omega))
                  have f6__0 := fun o => hb_w6.frozen (p := ⟨w.heap.size, o, none⟩) (by first | omega | (simp <;> omega))
                  have c6__0_0 := c6__0 0; conv at c6__0_0 => rhs; simp [go_sem, *]
                  have f6__0_0 := f6__0 0; conv at f6__0_0 => rhs; simp [go_sem, *]
                  have c6__0_1 := c6__0 1; conv at c6__0_1 => rhs; simp [go_sem, *]
                  have f6__0_1 := f6__0 1; conv at f6__0_1 => rhs; simp [go_sem, *]
                  have c6__0_2 := c6__0 2; conv at c6__0_2 => rhs; simp [go_sem, *]
                  have f6__0_2 := f6__0 2; conv at f6__0_2 => rhs; simp [go_sem, *]
                  have HH_w6 := Lib.hid hb_w6
                  have hB_w6 : Below wr.heap.size wr w6 := Below.trans (by (repeat (first | with_reducible exact Below.refl _ _ | with_reducible assumption | with_reducible refine Below.drew ?_ | (with_reducible refine Below.setCell ?_ ?_ _; rotate_left; (first | omega | (simp <;> omega))) | (with_reducible refine Below.alloc ?_ ?_ _; rotate_left; (first | omega | (simp <;> omega))) | exact Below.refl _ _ | assumption))) (hb_w6.mono (by first | omega | (simp <;> omega)))
                  clear hb_w6 c_w6_wr_0 f_w6_wr_0 c6__0 f6__0
                  have far_w6_wr_0 := far (show wr.heap.size < w6.heap.size by omega)
                  have far_w6_w_0 := far (show w.heap.size < w6.heap.size by omega)
                  go_wp2_with fail
                  go_roundw
                  case rel => exact ⟨k + 1, b0, b1, b2, by go_num, by omega, HF3.out, by omega, by (try simp only [World.size_setCell]); omega, ⟨by simp [go_sem, *], by simp [go_sem, *], by simp [go_sem, *]⟩, ⟨by simp [go_sem, *], by simp [go_sem, *], by simp [go_sem, *]⟩, by (have := HB.out.trans (hB_w6.mono hzw); (repeat (first | with_reducible exact Below.refl _ _ | with_reducible assumption | with_reducible refine Below.drew ?_ | (with_reducible refine Below.setCell ?_ ?_ _; rotate_left; (first | omega | (simp <;> omega))) | (with_reducible refine Below.alloc ?_ ?_ _; rotate_left; (first | omega | (simp <;> omega))) | exact Below.refl _ _ | assumption)))⟩
                  case measure => simp [intOf]; omega
              · have h2b : ((r1.length : Int) == (b1.length : Int)) = false := by simp; omega
                have z3 : decide (r1.length = b1.length) = false := decide_eq_false h2
                clear h2
                have HF3 := Lib.hid (show (L.drop (k + 1)).foldl (refStep host path) (b0, b1, b2) = refBest L host path by have h := HF2.out; rw [if_neg (by simp only [hre, hrh, z1, htk, z2, z3, List.isEmpty_nil, Bool.true_or, Bool.or_true, Bool.false_or, Bool.or_false, Bool.true_and, Bool.and_true, Bool.false_and, Bool.and_false, Bool.false_eq_true, not_false_eq_true])] at h; exact h)
                clear HF2
                go_wp2_with fail
                refine wp_region_later (wr.heap.size + 1) (by kernel_rfl) (by kernel_rfl) ?_
                have l_w6_wr_0 := @Later.at (wr.heap.size + 1) (wr.heap.size) (by omega)
                have l_w6_w_0 := @Later.at (wr.heap.size + 1) (w.heap.size) (by omega)
                repeat (go_big_quiet_step (fail))
                refine wpQuiet_nil ?_
                rintro w6 ⟨⟨_, hb_w6⟩, rfl⟩
                clear l_w6_wr_0 l_w6_w_0
                try simp only [] at hb_w6 ⊢
                have hz_w6 := hb_w6.size
                try simp at hz_w6
                have c_w6_wr_0 := fun o => hb_w6.cell (p := ⟨wr.heap.size, o, none⟩) (by first | omega | (simp <;> omega))
                have f_w6_wr_0 := fun o => hb_w6.frozen (p := ⟨wr.heap.size, o, none⟩) (by first | omega | (simp <;> omega))
                have c_w6_wr_0_0 := c_w6_wr_0 0; conv at c_w6_wr_0_0 => rhs; simp [go_sem, *]
                have f_w6_wr_0_0 := f_w6_wr_0 0; conv at f_w6_wr_0_0 => rhs; simp [go_sem, *]
                have c_w6_wr_0_1 := c_w6_wr_0 1; conv at c_w6_wr_0_1 => rhs; simp [go_sem, *]
                have f_w6_wr_0_1 := f_w6_wr_0 1; conv at f_w6_wr_0_1 => rhs; simp [go_sem, *]
                have c_w6_wr_0_2 := c_w6_wr_0 2; conv at c_w6_wr_0_2 => rhs; simp [go_sem, *]
                have f_w6_wr_0_2 := f_w6_wr_0 2; conv at f_w6_wr_0_2 => rhs; simp [go_sem, *]
                have c6__0 := fun o => hb_w6.cell (p := ⟨w.heap.size, o, none⟩) (by first | omega | (simp <;> omega))
                have f6__0 := fun o => hb_w6.frozen (p := ⟨w.heap.size, o, none⟩) (by first | omega | (simp <;> omega))
                have c6__0_0 := c6__0 0; conv at c6__0_0 => rhs; simp [go_sem, *]
                have f6__0_0 := f6__0 0; conv at f6__0_0 => rhs; simp [go_sem, *]
                have c6__0_1 := c6__0 1; conv at c6__0_1 => rhs; simp [go_sem, *]
                have f6__0_1 := f6__0 1; conv at f6__0_1 => rhs; simp [go_sem, *]
                have c6__0_2 := c6__0 2; conv at c6__0_2 => rhs; simp [go_sem, *]
                have f6__0_2 := f6__0 2; conv at f6__0_2 => rhs; simp [go_sem, *]
                have HH_w6 := Lib.hid hb_w6
                have hB_w6 : Below wr.heap.size wr w6 := Below.trans (by (repeat (first | with_reducible exact Below.refl _ _ | with_reducible assumption | with_reducible refine Below.drew ?_ | (with_reducible refine Below.setCell ?_ ?_ _; rotate_left; (first | omega | (simp <;> omega))) | (with_reducible refine Below.alloc ?_ ?_ _; rotate_left; (first | omega | (simp <;> omega))) | exact Below.refl _ _ | assumption))) (hb_w6.mono (by first | omega | (simp <;> omega)))
                clear hb_w6 c_w6_wr_0 f_w6_wr_0 c6__0 f6__0
                have far_w6_wr_0 := far (show wr.heap.size < w6.heap.size by omega)
                have far_w6_w_0 := far (show w.heap.size < w6.heap.size by omega)
                go_wp2_with fail
                go_roundw
                case rel => exact ⟨k + 1, b0, b1, b2, by go_num, by omega, HF3.out, by omega, by (try simp only [World.size_setCell]); omega, ⟨by simp [go_sem, *], by simp [go_sem, *], by simp [go_sem, *]⟩, ⟨by simp [go_sem, *], by simp [go_sem, *], by simp [go_sem, *]⟩, by (have := HB.out.trans (hB_w6.mono hzw); (repeat (first | with_reducible exact Below.refl _ _ | with_reducible assumption | with_reducible refine Below.drew ?_ | (with_reducible refine Below.setCell ?_ ?_ _; rotate_left; (first | omega | (simp <;> omega))) | (with_reducible refine Below.alloc ?_ ?_ _; rotate_left; (first | omega | (simp <;> omega))) | exact Below.refl _ _ | assumption)))⟩
                case measure => simp [intOf]; omega
    · obtain rfl : k = L.length := by omega
      have HF2 := HF.out
      rw [List.drop_length, List.foldl_nil] at HF2
      have HR2 := HR.out
      rw [← HF2] at HR2
      simp only at HR2
      cases hbe : b1.isEmpty with
      | true =>
        obtain rfl : b1 = [] := by simpa using hbe
        rw [List.isEmpty_nil, if_pos rfl] at HR2
        subst HR2
        clear HF2
        go_wp2_with fail
        go_ret2
        exact ⟨rfl, hB⟩
      | false =>
        have hbb : (b1 == []) = false := by cases b1 with | nil => simp at hbe | cons a b => rfl
        rw [hbe, if_neg (by simp)] at HR2
        subst HR2
        clear HF2
        go_wp2_with fail
        go_ret2
        exact ⟨rfl, hB⟩
end Go.Proofs.YtgjemgilanhdiaaGreatDoor
