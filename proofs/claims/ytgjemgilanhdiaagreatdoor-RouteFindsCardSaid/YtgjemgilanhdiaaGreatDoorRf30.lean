/- Rows of routes: append as a step of a region that draws; a row's end. The law's few: its row lies in a block of its own. -/
import Derived.Test.YtgjemgilanhdiaaGreatDoorRf29
import Derived.Test.YtgjemgilanhdiaaGreatDoorRf25
import Derived.Laws.AppendOwnNone
namespace Go.Proofs.YtgjemgilanhdiaaGreatDoor
open Go.RowKit Go.Sort Go.Shelf
set_option linter.unusedVariables false
set_option linter.unusedSimpArgs false

theorem ReadsW.drop {W : World} {b : Addr} {cap : Nat} {L : List Wrd} (h : ReadsW W (.slice (some b) L.length cap) L) {q : Nat} (hq : q ≤ L.length) : ReadsW W (.slice (some ⟨b.block, b.off + q * 3, none⟩) (L.length - q) (cap - q)) (L.drop q) := by
  obtain ⟨ao', cap', e1, e2, e3, e4, e5⟩ := h
  injection e1 with e6 e7 e8
  subst e6
  subst e8
  have hl : (L.drop q).length = L.length - q := by simp
  refine ⟨_, cap - q, by rw [hl], by omega, by omega, (fun h => by cases h), fun h0 => ?_⟩
  obtain ⟨b', off, f1, f2, f3⟩ := e5 (by omega)
  injection f1 with f1
  subst f1
  refine ⟨b', off + q * 3, rfl, f2, fun j hj => ?_⟩
  have := f3 (q + j) (by omega)
  rw [List.getElem_drop, show off + q * 3 + j * 3 = off + (q + j) * 3 by omega]
  exact this
theorem OwnsW.empty_at {W : World} {B b : Nat} (h : W.heap[b]? = some (.cells #[] 43 (0, 0))) (hB : B ≤ b) : OwnsW W B (.slice (some ⟨b, 0, none⟩) 0 0) [] :=
  ⟨rfl, .inr ⟨b, 0, #[], rfl, hB, h, Nat.le_refl _, by decide, rfl, rfl⟩⟩
theorem new_cells (W : World) : ((W.alloc (.cells #[] 43)).drew).heap[W.heap.size]? = some (.cells #[] 43 (0, 0)) := by
  show (W.heap.push _)[W.heap.size]? = _
  rw [Array.getElem?_push_size]
theorem step_append_wrow {ops : Array Oper} {o : Oper} {a : Act} {K : Act → World → Prop} {Q : Exit → Act → World → Prop} {E : Prop} (hgd : o.guard = none) (s x : Operand)
    (ho : o.op = .call { callee := .builtin .append, args := #[s, x], argTypes := #[22, 22] })
    (W : World) (B : Nat) (v : Value) (L0 : List Wrd) (hown : OwnsW W B v L0) (hs : a.eval s = v) (ao : Option Addr) (ln cap : Nat) (L : List Wrd) (hr : ReadsW W (.slice ao ln cap) L) (hx : a.eval x = .slice ao ln cap)
    (hn : L0.length + L.length ≤ 1099511627776) (hB : B ≤ W.heap.size)
    (h : ∀ v' w', OwnsW w' B v' (L0 ++ L) → W.grownBy w' v.ownBlock → K (a.put o.dst v') w') : if Region.wanted o (yielded ops a.tmps) = true then Oper.wp Tryz.prog o a W K Q else E := by
  have hw : Region.wanted o (yielded ops a.tmps) = true := by simp [Region.wanted, hgd]
  rw [if_pos hw]
  obtain ⟨i0, hi, hz0, hz1, hz2⟩ := info_parts infoWrd
  obtain rfl : ln = L.length := by obtain ⟨_, _, e1, _⟩ := hr; injection e1
  have hcells := wclipCells hr
  obtain ⟨ao', cap', e1, e2, e3, e4, e5⟩ := hr
  injection e1 with e6 e7 e8
  subst e6
  subst e8
  have hown' : W.ownsRow B 43 3 v L0.length (L0.flatMap wcells) := hown
  cases ao with
  | none =>
    have hc0 := e4 rfl
    have hz : L.length = 0 := by omega
    obtain rfl : L = [] := List.length_eq_zero_iff.1 hz
    subst hc0
    have hrun := run_append_owned_none (P := Tryz.prog) (w := W) B 22 o.type 43 i0 3 Tryz.underlying22 hi v L0.length _ hown'
    unfold Oper.wp
    simp [execOp, ho, Go.resolve, Go.invoke, Go.builtin, hs, hx, hrun, Result.andThen]
    exact h _ _ (by rw [List.append_nil]; exact hown) ⟨rfl, rfl, rfl, Nat.le_refl _, fun _ _ _ => rfl⟩
  | some ad =>
    obtain ⟨v', w', hrun, r1, r2, _⟩ := run_append_own (P := Tryz.prog) W B 22 o.type 43 i0 (.agg #[.string ⟨#[]⟩, .string ⟨#[]⟩, .string ⟨#[]⟩]) 3 48 Tryz.underlying22 hi hz0 hz1 hz2 rfl (by decide) v L0.length _ hown' ad L.length cap (L.flatMap wcells) (wflat_len L) (hcells ad rfl) (wflat_one L) (by unfold maxLen; omega) (by omega) hB
    unfold Oper.wp
    simp [execOp, ho, Go.resolve, Go.invoke, Go.builtin, hs, hx, hrun, Result.andThen]
    exact h _ _ (by unfold OwnsW; simpa using r1) r2

theorem ReadsW.take' {W : World} {ao : Option Addr} {cap : Nat} {L : List Wrd} (h : ReadsW W (.slice ao L.length cap) L) {q : Nat} (hq : q ≤ L.length) : ReadsW W (.slice ao q cap) (L.take q) := by
  have := h.take hq
  rwa [show (L.take q).length = q by simp; omega] at this
def aliveRt : List Wrd := [([], [47], [97]), ([], [47, 120], [98])]
theorem alive_find : findR aliveRt [104] [47, 120, 121] = ([98], 0) := by kernel_rfl
theorem alive_reads (W : World) : ReadsW (W.alloc (.cells #[.string (S []), .string (S [47]), .string (S [97]), .string (S []), .string (S [47, 120]), .string (S [98])] 43)) (.slice (some ⟨W.heap.size, 0, none⟩) 2 2) aliveRt :=
  ⟨_, 2, rfl, Nat.le_refl _, by decide, (fun h => by cases h), fun _ => ⟨_, 0, rfl, by simp, fun j hj => by
    have h2 : j < 2 := hj
    rw [World.cell?_alloc_new, World.cell?_alloc_new, World.cell?_alloc_new]
    match j, h2 with
    | 0, _ | 1, _ => exact ⟨rfl, rfl, rfl⟩⟩⟩
set_option maxHeartbeats 800000 in
set_option maxRecDepth 100000 in
theorem alive (w : World) (hL : Laid w) : Calls Tryz.prog 11 #[] w fun e w' => e = .returned (.bool true) ∧ Below w.heap.size w w' := by
  have F := Lib.hid (fun (W : World) (hb : Below w.heap.size w W) (hr : ReadsW W (.slice (some ⟨w.heap.size, 0, none⟩) 2 2) aliveRt) => routeFind _ aliveRt [104] [47, 120, 121] W hr (by decide) (by decide) (hL.on hb))
  rw [alive_find] at F
  have A := Lib.hid (alive_reads w)
  clear hL
  go_enter Tryz.func11, Tryz.ntmps11
  go_wp2_with (go_at_call 6; (with_reducible refine Calls.mono (F.out _ ?_ A.out) ?_); (focus (repeat (first | with_reducible exact Below.refl _ _ | with_reducible assumption | with_reducible refine Below.drew ?_ | (with_reducible refine Below.setCell ?_ ?_ _; rotate_left; (first | omega | (simp <;> omega))) | (with_reducible refine Below.alloc ?_ ?_ _; rotate_left; (first | omega | (simp <;> omega))) | exact Below.refl _ _ | assumption))); rintro e w1 ⟨rfl, hb1⟩; have HB1 := Lib.hid (Below.trans (show Below w.heap.size w _ by (repeat (first | with_reducible exact Below.refl _ _ | with_reducible assumption | with_reducible refine Below.drew ?_ | (with_reducible refine Below.setCell ?_ ?_ _; rotate_left; (first | omega | (simp <;> omega))) | (with_reducible refine Below.alloc ?_ ?_ _; rotate_left; (first | omega | (simp <;> omega))) | exact Below.refl _ _ | assumption))) (hb1.mono (by simp))); clear hb1)
  go_ret
  exact ⟨rfl, HB1.out⟩
end Go.Proofs.YtgjemgilanhdiaaGreatDoor
namespace Go.Proofs.YtgjemgilanhdiaaGreatDoor
open Go.RowKit Go.Sort Go.Shelf
set_option linter.unusedVariables false
set_option linter.unusedSimpArgs false

theorem ReadsW.set {W : World} {v : Value} {L : List Wrd} (h : ReadsW W v L) {g j : Nat} {u : Value} (hk : ∀ k, v.ownBlock = some k → k ≠ g) : ReadsW (W.setCell ⟨g, j, none⟩ u) v L := by
  obtain ⟨ao, cap, rfl, e2, e3, e4, e5⟩ := h
  refine ⟨ao, cap, rfl, e2, e3, e4, fun h0 => ?_⟩
  obtain ⟨b, off, rfl, f2, f3⟩ := e5 h0
  have hne : b ≠ g := hk b rfl
  refine ⟨b, off, rfl, by simpa using f2, fun i hi => ?_⟩
  obtain ⟨c1, c2, c3⟩ := f3 i hi
  refine ⟨?_, ?_, ?_⟩
  · rw [World.cell?_setCell_other _ _ _ _ (by simp [Ne.symm hne, hne])]; exact c1
  · rw [World.cell?_setCell_other _ _ _ _ (by simp [Ne.symm hne, hne])]; exact c2
  · rw [World.cell?_setCell_other _ _ _ _ (by simp [Ne.symm hne, hne])]; exact c3

set_option maxHeartbeats 1600000 in
set_option maxRecDepth 100000 in
theorem rtFewO (v : Value) (L : List Wrd) (w : World) (hr : ReadsW w v L) (hl : ∀ f ∈ L, f.1.length ≤ 9223372036854775807 ∧ f.2.1.length ≤ 9223372036854775807 ∧ f.2.2.length ≤ 9223372036854775807) :
    Calls Tryz.prog 5 #[v] w fun e w' => ∃ v', e = .returned v' ∧ ReadsW w' v' (fewR L) ∧ Below w.heap.size w w' ∧ ∀ k, v'.ownBlock = some k → w.heap.size ≤ k := by
  have HR := Lib.hid hr
  obtain ⟨ao, cap, rfl, hc1, hc2, hc3, _⟩ := hr
  have hm : maxLen = 9223372036854775807 := rfl
  rw [hm] at hc2
  obtain ⟨T, hT, hTl, hTm⟩ : ∃ T, L.take 20 = T ∧ T.length ≤ L.length ∧ min (L.length : Int) 20 = (T.length : Int) := ⟨_, rfl, by simp; omega, by simp; omega⟩
  have hTR : ReadsW w (.slice ao T.length cap) T := by
    have e : L.take T.length = T := by
      rw [← hT, List.length_take]
      by_cases h : L.length ≤ 20
      · rw [Nat.min_eq_right h, List.take_length, List.take_of_length_le h]
      · rw [Nat.min_eq_left (by omega)]
    have := HR.out.take hTl
    rw [e] at this
    exact this
  have hfew : fewR L = T.map cutR := by unfold fewR; rw [hT]
  have hl2 : ∀ f ∈ T, f.1.length ≤ 9223372036854775807 ∧ f.2.1.length ≤ 9223372036854775807 ∧ f.2.2.length ≤ 9223372036854775807 := fun f hf => hl f (by rw [← hT] at hf; exact List.mem_of_mem_take hf)
  rw [hfew]
  have hT20 : T.length ≤ 20 := by rw [← hT]; simp; omega
  have HTR := Lib.hid hTR
  have HL := Lib.hid hl2
  clear hm hT hTR hfew hl hl2 HR hc3
  go_enter Tryz.func5, Tryz.ntmps5
  go_wp2_with (at_builtin; refine wp_append_wrow rfl _ _ rfl _ w.heap.size _ [] (OwnsW.made w w.heap.size (Nat.le_refl _)) rfl ao cap T (HTR.out.below (by (repeat (first | with_reducible exact Below.refl _ _ | with_reducible assumption | with_reducible refine Below.drew ?_ | (with_reducible refine Below.setCell ?_ ?_ _; rotate_left; (first | omega | (simp <;> omega))) | (with_reducible refine Below.alloc ?_ ?_ _; rotate_left; (first | omega | (simp <;> omega))) | exact Below.refl _ _ | assumption)))) rfl (by simp; omega) (by simp) ?_; intro v' w1 hown hb; have HO := Lib.hid (show OwnsW w1 w.heap.size v' T from by simpa using hown); have HLO := Lib.hid (fun k hk => (World.ownsRow.lt HO.out k hk).1); have hbw := Below.trans (show Below w.heap.size w _ by (repeat (first | with_reducible exact Below.refl _ _ | with_reducible assumption | with_reducible refine Below.drew ?_ | (with_reducible refine Below.setCell ?_ ?_ _; rotate_left; (first | omega | (simp <;> omega))) | (with_reducible refine Below.alloc ?_ ?_ _; rotate_left; (first | omega | (simp <;> omega))) | exact Below.refl _ _ | assumption))) hb; obtain ⟨bo, cap', hsh, k1, k2, _, _⟩ := HO.out.reads; subst hsh; clear hown)
  have hmx : maxLen = 9223372036854775807 := rfl
  rw [hmx] at k2
  clear hb hmx
  rcases Nat.eq_zero_or_pos T.length with h0 | h0
  · obtain rfl : T = [] := List.length_eq_zero_iff.1 h0
    clear h0 hTm k1
    go_wp2
    refine wp_loop_rounds 1 ?_
    rw [rounds_succ]
    go_wp2
    go_ret
    exact ⟨_, rfl, HO.out.reads, hbw, HLO.out⟩
  · obtain ⟨g, cap2, e1, e2, e3, e4, e5, e6, e7⟩ := HO.out.open h0
    injection e1 with e8 e9 e10
    subst e8
    subst e10
    have CW := Lib.hid (show CellsW w1 g T from ⟨e5, e6, e7⟩)
    clear e6 e7 e2 e3
    go_loopw [14] (fun iv wr => ∃ (i : Nat) (M : List Wrd), iv = .int .i64 i ∧ i ≤ T.length ∧ M.length = T.length ∧ M.take i = (T.take i).map cutR ∧ M.drop i = T.drop i ∧ CellsW wr g M ∧ Below w.heap.size w wr) (fun iv _ => T.length - (intOf iv).toNat)
    case atStart => exact ⟨0, T, rfl, Nat.zero_le _, rfl, rfl, rfl, CW.out, hbw⟩
    case round =>
      obtain ⟨i, M, rfl, hi, hMl, hM1, hM2, hcw, hB⟩ := hrel
      have HC := Lib.hid hcw
      have HB := Lib.hid hB
      have hlt := hcw.lt
      have hfz := hcw.fz
      have HM1 := Lib.hid hM1
      have HM2 := Lib.hid hM2
      by_cases hil : i < T.length
      · obtain ⟨f1, f2, f3⟩ := hcw.cell i (by omega)
        have hMi : M[i]'(by omega) = T[i] := by
          have := congrArg (fun l => l[0]?) hM2
          simpa [hil, (by omega : i < M.length)] using this
        rw [hMi] at f1 f2 f3
        obtain ⟨la, lb, lc⟩ := HL.out _ (List.getElem_mem hil)
        have hcut : cutR T[i] = (T[i].1.take 120, T[i].2.1.take 120, T[i].2.2.take 120) := rfl
        have HS1 := Lib.hid (show (M.set i (cutR T[i])).take (i + 1) = (T.take (i + 1)).map cutR by
          rw [List.take_set, List.take_succ_eq_append_getElem (by omega : i < M.length), List.take_succ_eq_append_getElem hil, List.map_append, ← hM1, List.set_append_right _ _ (by simp; omega)]
          simp [(by omega : i ≤ M.length)])
        have HS2 := Lib.hid (show (M.set i (cutR T[i])).drop (i + 1) = T.drop (i + 1) by
          rw [List.drop_set_of_lt (by omega)]
          have := congrArg (List.drop 1) hM2
          simpa [List.drop_drop, Nat.add_comm] using this)
        rw [hcut] at HS1 HS2
        obtain ⟨⟨a, b, c⟩, hab⟩ : ∃ f, T[i] = f := ⟨_, rfl⟩
        rw [hab] at f1 f2 f3 la lb lc HS1 HS2
        simp only at f1 f2 f3 la lb lc HS1 HS2
        obtain ⟨p, hp, hp1, hp2⟩ := cut120 a
        obtain ⟨q, hq, hq1, hq2⟩ := cut120 b
        obtain ⟨r, hr, hr1, hr2⟩ := cut120 c
        rw [hp2, hq2, hr2] at HS1 HS2
        clear hcut hab hp2 hq2 hr2 hMi hM1 hM2 hcw hB
        have hfar := far hlt
        go_wp2_with fail
        refine wp_region_later_tail (wr.heap.size + 1) 25 (by kernel_rfl) (by kernel_rfl) ?_
        simp only [List.take_succ_cons, List.take_zero, List.drop_succ_cons, List.drop_zero]
        have l_w2_wr_0 := @Later.at (wr.heap.size + 1) (wr.heap.size) (by omega)
        repeat (go_big_quiet_step (fail))
        refine wpQuiet_nil ?_
        rintro w2 ⟨⟨_, hb_w2⟩, rfl⟩
        clear l_w2_wr_0
        try simp only [] at hb_w2 ⊢
        have hz_w2 := hb_w2.size
        try simp at hz_w2
        have c_w2_wr_0 := fun o => hb_w2.cell (p := ⟨wr.heap.size, o, none⟩) (by first | omega | (simp <;> omega))
        have f_w2_wr_0 := fun o => hb_w2.frozen (p := ⟨wr.heap.size, o, none⟩) (by first | omega | (simp <;> omega))
        have c_w2_wr_0_0 := c_w2_wr_0 0; conv at c_w2_wr_0_0 => rhs; simp [go_sem, *]
        have f_w2_wr_0_0 := f_w2_wr_0 0; conv at f_w2_wr_0_0 => rhs; simp [go_sem, *]
        have c_w2_wr_0_1 := c_w2_wr_0 1; conv at c_w2_wr_0_1 => rhs; simp [go_sem, *]
        have f_w2_wr_0_1 := f_w2_wr_0 1; conv at f_w2_wr_0_1 => rhs; simp [go_sem, *]
        have c_w2_wr_0_2 := c_w2_wr_0 2; conv at c_w2_wr_0_2 => rhs; simp [go_sem, *]
        have f_w2_wr_0_2 := f_w2_wr_0 2; conv at f_w2_wr_0_2 => rhs; simp [go_sem, *]
        have HH_w2 := Lib.hid hb_w2
        have hB_w2 : Below wr.heap.size wr w2 := Below.trans (by (repeat (first | with_reducible exact Below.refl _ _ | with_reducible assumption | with_reducible refine Below.drew ?_ | (with_reducible refine Below.setCell ?_ ?_ _; rotate_left; (first | omega | (simp <;> omega))) | (with_reducible refine Below.alloc ?_ ?_ _; rotate_left; (first | omega | (simp <;> omega))) | exact Below.refl _ _ | assumption))) (hb_w2.mono (by first | omega | (simp <;> omega)))
        clear hb_w2 c_w2_wr_0 f_w2_wr_0
        have far_w2_wr_0 := far (show wr.heap.size < w2.heap.size by omega)
        have c1 := (hB_w2.cell (p := ⟨g, i * 3, none⟩) hlt).trans f1
        have c2 := (hB_w2.cell (p := ⟨g, i * 3 + 1, none⟩) hlt).trans f2
        have c3 := (hB_w2.cell (p := ⟨g, i * 3 + 2, none⟩) hlt).trans f3
        have c4 := (hB_w2.frozen (p := ⟨g, i * 3, none⟩) hlt).trans (hfz _)
        have c5 := (hB_w2.frozen (p := ⟨g, i * 3 + 1, none⟩) hlt).trans (hfz _)
        have c6 := (hB_w2.frozen (p := ⟨g, i * 3 + 2, none⟩) hlt).trans (hfz _)
        have HC2 := Lib.hid (HC.out.below hB_w2)
        have HB2 := Lib.hid (HB.out.trans (hB_w2.mono HB.out.size))
        clear f1 f2 f3 hfz
        go_wp2
        go_roundw
        case rel =>
          have HP := Lib.hid (HC2.out.put i (by omega) (a.take p, b.take q, c.take r))
          refine ⟨i + 1, M.set i (a.take p, b.take q, c.take r), by go_num, by omega, by rw [List.length_set]; exact hMl, HS1.out, HS2.out, ?_, ?_⟩
          · with_reducible exact HP.out
          · have h2 := HB2.out
            (repeat (first | with_reducible exact Below.refl _ _ | with_reducible assumption | with_reducible refine Below.drew ?_ | (with_reducible refine Below.setCell ?_ ?_ _; rotate_left; (first | omega | (simp <;> omega))) | (with_reducible refine Below.alloc ?_ ?_ _; rotate_left; (first | omega | (simp <;> omega))) | exact Below.refl _ _ | assumption))
        case measure => simp [intOf]; omega
      · obtain rfl : i = T.length := by omega
        have hMM : M.take M.length = T.map cutR := by rw [hMl]; simpa using HM1.out
        rw [List.take_length] at hMM
        subst hMM
        clear hM1 hM2
        go_wp2
        go_ret
        refine ⟨_, rfl, ?_, HB.out, HLO.out⟩
        have := HC.out.reads (n := T.length) (cap := cap') (by simp) (by simpa using k1) k2
        rw [List.take_of_length_le (by simp)] at this
        exact this
end Go.Proofs.YtgjemgilanhdiaaGreatDoor
