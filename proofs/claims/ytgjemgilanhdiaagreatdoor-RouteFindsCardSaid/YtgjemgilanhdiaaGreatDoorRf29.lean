/- Where a request goes: the walk of route.Find. Whether a row of routes may be, by the document: the walk of the reference's Right. -/
import Derived.Test.YtgjemgilanhdiaaGreatDoorRf28
import Derived.Test.YtgjemgilanhdiaaGreatDoorRf26
namespace Go.Proofs.YtgjemgilanhdiaaGreatDoor
open Go.RowKit Go.Sort Go.Shelf
set_option linter.unusedVariables false
set_option linter.unusedSimpArgs false

theorem findR_bad {L : List Wrd} (host path : List UInt8) (h : rightRt L = false) : findR L host path = ([], 1) := by
  unfold findR; rw [h]; rfl
theorem findR_none {L : List Wrd} {host path : List UInt8} (h : rightRt L = true) (hf : L.filter (fitB host path) = []) : findR L host path = ([], 61) := by
  unfold findR; rw [h, hf]; rfl
theorem findR_some {L : List Wrd} {host path : List UInt8} {x : Wrd} {t : List Wrd} (h : rightRt L = true) (hf : L.filter (fitB host path) = x :: t) : findR L host path = ((bestG x t).2.2, 0) := by
  unfold findR; rw [h, hf]; rfl

set_option maxHeartbeats 3200000 in
set_option maxRecDepth 100000 in
theorem routeFind (v : Value) (L : List Wrd) (host path : List UInt8) (w : World) (hr : ReadsW w v L) (hl : ∀ f ∈ L, f.1.length ≤ 900 ∧ f.2.1.length ≤ 900 ∧ f.2.2.length ≤ 900) (hn : L.length ≤ 1000000) (hLd : Laid w) :
    Calls Tryz.prog 6 #[v, .string (S host), .string (S path)] w fun e w' => e = .returned (.tuple #[.string (S (findR L host path).1), .int .i64 (findR L host path).2]) ∧ Below w.heap.size w w' := by
  have HR := Lib.hid hr
  have RR := Lib.hid (fun W (hb : Below w.heap.size w W) => routesRight v L W (hr.below hb) hl hn (hLd.on hb))
  have CL := Lib.hid (fun W (hb : Below w.heap.size w W) => cloneRt v L W (hr.below hb) (by omega))
  have eg1 : ∀ args w, (callFunc 15 args).run Tryz.prog w = .ok (.enter 15 args) w := enters_of Tryz.func15 (by kernel_rfl) rfl
  have DL := Lib.hid (fun (v2 : Value) (w2 w1 : World) (hz : w.heap.size + 1 < w1.heap.size) (hz2 : w1.heap.size ≤ w2.heap.size) (ho : OwnsW w2 w1.heap.size v2 L)
    (c1 : w2.cell? ⟨w.heap.size, 0, none⟩ = some (.string (S host))) (c2 : w2.cell? ⟨w.heap.size + 1, 0, none⟩ = some (.string (S path))) =>
    delRt 15 #[.pointer (some ⟨w.heap.size, 0, none⟩), .pointer (some ⟨w.heap.size + 1, 0, none⟩)] (fun f => !fitB host path f) eg1 v2 L w2 w1.heap.size hz2 ho
      (fun f hf W' hb => fit1 f w.heap.size (w.heap.size + 1) host path W' ((hb.cell (p := ⟨w.heap.size, 0, none⟩) (show w.heap.size < w1.heap.size by omega)).trans c1) ((hb.cell (p := ⟨w.heap.size + 1, 0, none⟩) hz).trans c2) (by have := hb.size; omega) (by have := hb.size; omega)))
  have hff : (fun f => !(fun f => !fitB host path f) f) = fitB host path := by funext f; simp
  simp only [Bool.not_not] at DL
  cases hR : rightRt L with
  | false =>
    rw [findR_bad host path hR]
    rw [hR] at RR
    clear DL CL hl hn hLd hr hR hff
    go_enter Tryz.func6, Tryz.ntmps6
    go_wp2_with (go_at_call 9; (with_reducible refine Calls.mono (RR.out _ ?_) ?_); (focus (repeat (first | with_reducible exact Below.refl _ _ | with_reducible assumption | with_reducible refine Below.drew ?_ | (with_reducible refine Below.setCell ?_ ?_ _; rotate_left; (first | omega | (simp <;> omega))) | (with_reducible refine Below.alloc ?_ ?_ _; rotate_left; (first | omega | (simp <;> omega))) | exact Below.refl _ _ | assumption))); rintro e w1 ⟨rfl, hb1⟩; have HB1 := Lib.hid (Below.trans (show Below w.heap.size w _ by (repeat (first | with_reducible exact Below.refl _ _ | with_reducible assumption | with_reducible refine Below.drew ?_ | (with_reducible refine Below.setCell ?_ ?_ _; rotate_left; (first | omega | (simp <;> omega))) | (with_reducible refine Below.alloc ?_ ?_ _; rotate_left; (first | omega | (simp <;> omega))) | exact Below.refl _ _ | assumption))) (hb1.mono (by simp <;> omega))); clear hb1)
    go_ret2
    exact ⟨rfl, HB1.out⟩
  | true =>
    rw [hR] at RR
    cases hF : L.filter (fitB host path) with
    | nil =>
      rw [findR_none hR hF]
      rw [show L.filter (fun f => fitB host path f) = [] from hF] at DL
      clear hl hn hLd hr hR hff hF
      go_enter Tryz.func6, Tryz.ntmps6
      go_wp2_with (first
        | (go_at_call 9; (with_reducible refine Calls.mono (RR.out _ ?_) ?_); (focus (repeat (first | with_reducible exact Below.refl _ _ | with_reducible assumption | with_reducible refine Below.drew ?_ | (with_reducible refine Below.setCell ?_ ?_ _; rotate_left; (first | omega | (simp <;> omega))) | (with_reducible refine Below.alloc ?_ ?_ _; rotate_left; (first | omega | (simp <;> omega))) | exact Below.refl _ _ | assumption))); rintro e w1 ⟨rfl, hb1⟩; have HB1 := Lib.hid (Below.trans (show Below w.heap.size w _ by (repeat (first | with_reducible exact Below.refl _ _ | with_reducible assumption | with_reducible refine Below.drew ?_ | (with_reducible refine Below.setCell ?_ ?_ _; rotate_left; (first | omega | (simp <;> omega))) | (with_reducible refine Below.alloc ?_ ?_ _; rotate_left; (first | omega | (simp <;> omega))) | exact Below.refl _ _ | assumption))) (hb1.mono (by simp <;> omega))); obtain ⟨hcc1, hff1⟩ := bk hb1 w.heap.size (by simp <;> omega); obtain ⟨hcd1, hfd1⟩ := bk hb1 (w.heap.size + 1) (by simp <;> omega); have hz1 := hb1.size; (try simp only [World.size_alloc, World.size_setCell] at hz1); clear hb1)
        | (go_at_call 14; (with_reducible refine Calls.mono (CL.out _ HB1.out) ?_); rintro e w2 ⟨v2, rfl, ho2, hb2⟩; have HO2 := Lib.hid ho2; have HB2 := Lib.hid (HB1.out.trans (hb2.mono HB1.out.size)); have hz2 := hb2.size; have d1 : w2.cell? ⟨w.heap.size, 0, none⟩ = some (.string (S host)) := (hb2.cell (p := ⟨w.heap.size, 0, none⟩) (show w.heap.size < _ by omega)).trans ((hcc1 0).trans (by simp)); have d2 : w2.cell? ⟨w.heap.size + 1, 0, none⟩ = some (.string (S path)) := (hb2.cell (p := ⟨w.heap.size + 1, 0, none⟩) (show w.heap.size + 1 < _ by omega)).trans ((hcd1 0).trans (by simp)); have HD1 := Lib.hid d1; have HD2 := Lib.hid d2; clear ho2 hb2 d1 d2)
        | (go_at_call 13; (with_reducible refine Calls.mono (DL.out v2 w2 w1 (by omega) (by omega) HO2.out HD1.out HD2.out) ?_); rintro e w3 ⟨v3, rfl, hr3, hb3⟩; have HB3 := Lib.hid (HB2.out.trans (hb3.mono (by omega))); obtain ⟨ao3, cap3, rfl, _, _, _, _⟩ := hr3; clear hb3)
        | fail)
      go_ret2
      exact ⟨rfl, HB3.out⟩
    | cons x t =>
      rw [findR_some hR hF]
      rw [show L.filter (fun f => fitB host path f) = x :: t from hF] at DL
      have hlx : ∀ f ∈ x :: t, f.2.1.length ≤ 9223372036854775807 := fun f hf => by
        have : f ∈ L := by rw [← hF] at hf; exact (List.mem_filter.1 hf).1
        have := (hl f this).2.1
        omega
      have MX := Lib.hid (fun (v3 : Value) (w3 : World) (h : ReadsW w3 v3 (x :: t)) => maxRt v3 x t w3 h hlx)
      obtain ⟨⟨m1, m2, m3⟩, hm⟩ : ∃ f, bestG x t = f := ⟨_, rfl⟩
      rw [hm] at MX ⊢
      simp only [rtv] at MX
      have hlen : ((x :: t).length : Int) = t.length + 1 := by simp
      have hl0 : ((t.length : Int) + 1 == 0) = false := by
        rw [beq_eq_false_iff_ne]; omega
      have hl0' : ((t.length : Int) + 1 = 0) = False := by
        rw [eq_iff_iff, iff_false]; omega
      clear hl hn hLd hr hR hff hF hm hlx
      go_enter Tryz.func6, Tryz.ntmps6
      go_wp2_with (first
        | (go_at_call 9; (with_reducible refine Calls.mono (RR.out _ ?_) ?_); (focus (repeat (first | with_reducible exact Below.refl _ _ | with_reducible assumption | with_reducible refine Below.drew ?_ | (with_reducible refine Below.setCell ?_ ?_ _; rotate_left; (first | omega | (simp <;> omega))) | (with_reducible refine Below.alloc ?_ ?_ _; rotate_left; (first | omega | (simp <;> omega))) | exact Below.refl _ _ | assumption))); rintro e w1 ⟨rfl, hb1⟩; have HB1 := Lib.hid (Below.trans (show Below w.heap.size w _ by (repeat (first | with_reducible exact Below.refl _ _ | with_reducible assumption | with_reducible refine Below.drew ?_ | (with_reducible refine Below.setCell ?_ ?_ _; rotate_left; (first | omega | (simp <;> omega))) | (with_reducible refine Below.alloc ?_ ?_ _; rotate_left; (first | omega | (simp <;> omega))) | exact Below.refl _ _ | assumption))) (hb1.mono (by simp <;> omega))); obtain ⟨hcc1, hff1⟩ := bk hb1 w.heap.size (by simp <;> omega); obtain ⟨hcd1, hfd1⟩ := bk hb1 (w.heap.size + 1) (by simp <;> omega); have hz1 := hb1.size; (try simp only [World.size_alloc, World.size_setCell] at hz1); clear hb1)
        | (go_at_call 14; (with_reducible refine Calls.mono (CL.out _ HB1.out) ?_); rintro e w2 ⟨v2, rfl, ho2, hb2⟩; have HO2 := Lib.hid ho2; have HB2 := Lib.hid (HB1.out.trans (hb2.mono HB1.out.size)); have hz2 := hb2.size; have d1 : w2.cell? ⟨w.heap.size, 0, none⟩ = some (.string (S host)) := (hb2.cell (p := ⟨w.heap.size, 0, none⟩) (show w.heap.size < _ by omega)).trans ((hcc1 0).trans (by simp)); have d2 : w2.cell? ⟨w.heap.size + 1, 0, none⟩ = some (.string (S path)) := (hb2.cell (p := ⟨w.heap.size + 1, 0, none⟩) (show w.heap.size + 1 < _ by omega)).trans ((hcd1 0).trans (by simp)); have HD1 := Lib.hid d1; have HD2 := Lib.hid d2; clear ho2 hb2 d1 d2)
        | (go_at_call 13; (with_reducible refine Calls.mono (DL.out v2 w2 w1 (by omega) (by omega) HO2.out HD1.out HD2.out) ?_); rintro e w3 ⟨v3, rfl, hr3, hb3⟩; have HB3 := Lib.hid (HB2.out.trans (hb3.mono (by omega))); have hr3' := hr3; obtain ⟨ao3, cap3, e3, -, -, -, -⟩ := hr3'; subst e3; simp only [List.length_cons] at hr3; have HR3 := Lib.hid hr3; (try simp only [List.length_cons]); clear hr3 hb3)
        | (go_at_call 17; (with_reducible refine Calls.mono (MX.out _ w3 HR3.out) ?_); rintro e w4 ⟨rfl, hb4⟩; have HB4 := Lib.hid (HB3.out.trans (hb4.mono HB3.out.size)); have hz4 := HB4.out.size; clear hb4)
        | fail)
      go_ret2
      exact ⟨rfl, by have := HB4.out; (repeat (first | with_reducible exact Below.refl _ _ | with_reducible assumption | with_reducible refine Below.drew ?_ | (with_reducible refine Below.setCell ?_ ?_ _; rotate_left; (first | omega | (simp <;> omega))) | (with_reducible refine Below.alloc ?_ ?_ _; rotate_left; (first | omega | (simp <;> omega))) | exact Below.refl _ _ | assumption))⟩
end Go.Proofs.YtgjemgilanhdiaaGreatDoor
namespace Go.Proofs.YtgjemgilanhdiaaGreatDoor
open Go.RowKit Go.Sort Go.Shelf
set_option linter.unusedVariables false
set_option linter.unusedSimpArgs false

set_option maxHeartbeats 1600000 in
set_option maxRecDepth 100000 in
theorem refHostRt (s : List UInt8) (hs : s.length ≤ 900) (w : World) (hL : Laid w) :
    Calls Tryz.prog 27 #[.string (S s)] w fun e w' => e = .returned (.bool (hostOk s)) ∧ Below w.heap.size w w' := by
  have UP := Lib.hid (refUriRight true s 0 [47] false [] (by omega) (by simp) (by simp) w hL)
  have hE : hostOk s = rightU true s 0 [47] false [] := rfl
  rw [← hE] at UP
  obtain ⟨B, hB⟩ : ∃ B, hostOk s = B := ⟨_, rfl⟩
  rw [hB] at UP ⊢
  clear hE hB hL
  go_enter Tryz.func27, Tryz.ntmps27
  go_wp2_with (go_at_call 28; (with_reducible refine Calls.mono UP.out ?_); rintro e w1 ⟨rfl, hb1⟩; have HB1 := Lib.hid hb1; clear hb1)
  go_ret
  exact ⟨rfl, HB1.out⟩

theorem keys_take {L : List Wrd} {i : Nat} (hi : i < L.length) (h : ((L.take i).map keyR).Nodup) (hk : ∀ j (hj : j < i), keyR (L[j]'(by omega)) ≠ keyR L[i]) : ((L.take (i + 1)).map keyR).Nodup := by
  rw [List.take_succ_eq_append_getElem hi, List.map_append, List.nodup_append]
  refine ⟨h, by simp, fun x hx y hy => ?_⟩
  obtain rfl : y = keyR L[i] := by simpa using hy
  obtain ⟨r, hr, rfl⟩ := List.mem_map.1 hx
  obtain ⟨j, hj, rfl⟩ := List.getElem_of_mem hr
  have hji : j < i := by simp at hj; omega
  rw [List.getElem_take]
  exact hk j hji
theorem keys_twice (L : List Wrd) (i k : Nat) (hi : i < L.length) (hk : k < i) (h : keyR (L[k]'(by omega)) = keyR L[i]) : rightRt L = false := by
  unfold rightRt
  have : decide ((L.map keyR).Nodup) = false := by
    rw [decide_eq_false_iff_not]
    intro hn
    have h1 := List.pairwise_iff_getElem.1 hn k i (by simp; omega) (by simp; omega) hk
    simp only [List.getElem_map] at h1
    exact h1 h
  rw [this, Bool.and_false]
theorem rightRt_len {L : List Wrd} (h : ∀ r ∈ L, routeOk r = true) (hn : (L.map keyR).Nodup) : rightRt L = decide ((L.length : Int) ≤ 16) := by
  rw [rightRt_all h, decide_eq_true hn, Bool.and_true]

set_option maxHeartbeats 6400000 in
set_option maxRecDepth 100000 in
theorem refRoutesRight (v : Value) (L : List Wrd) (w : World) (hr : ReadsW w v L) (hl : ∀ f ∈ L, f.1.length ≤ 900 ∧ f.2.1.length ≤ 900 ∧ f.2.2.length ≤ 900) (hn : L.length ≤ 1000000) (hLd : Laid w) :
    Calls Tryz.prog 10 #[v] w fun e w' => e = .returned (.bool (rightRt L)) ∧ Below w.heap.size w w' := by
  obtain ⟨R, hR⟩ : ∃ R, rightRt L = R := ⟨_, rfl⟩
  have hYes := Lib.hid (@rightRt_len L)
  have hNo := Lib.hid (fun r => @rightRt_not L r)
  have hTw := Lib.hid (keys_twice L)
  rw [hR] at hYes hNo hTw ⊢
  have HR := Lib.hid hr
  have HL := Lib.hid hl
  have HLD := Lib.hid (fun W (hb : Below w.heap.size w W) => hLd.on hb)
  obtain ⟨ao, cap, rfl, hc1, hc2, hc3, hcell⟩ := hr
  have HCELL := Lib.hid hcell
  have hm : maxLen = 9223372036854775807 := rfl
  rw [hm] at hc2
  clear hR hl hLd hcell hm hc3
  go_enter Tryz.func10, Tryz.ntmps10
  go_wp2
  go_loopw [8] (fun iv wr => ∃ i : Nat, iv = .int .i64 i ∧ i ≤ L.length ∧ (∀ r ∈ L.take i, routeOk r = true) ∧ ((L.take i).map keyR).Nodup ∧ Below w.heap.size w wr) (fun iv _ => L.length - (intOf iv).toNat)
  case atStart => exact ⟨0, rfl, Nat.zero_le _, by simp, by simp, by (repeat (first | with_reducible exact Below.refl _ _ | with_reducible assumption | with_reducible refine Below.drew ?_ | (with_reducible refine Below.setCell ?_ ?_ _; rotate_left; (first | omega | (simp <;> omega))) | (with_reducible refine Below.alloc ?_ ?_ _; rotate_left; (first | omega | (simp <;> omega))) | exact Below.refl _ _ | assumption))⟩
  case round =>
    obtain ⟨i, rfl, hi, hall, hset, hB⟩ := hrel
    have HA := Lib.hid hall
    have HS := Lib.hid hset
    have HB := Lib.hid hB
    have hz := hB.size
    clear hall hset hB
    by_cases hil : i < L.length
    · obtain ⟨b, off, rfl, hb, hcl⟩ := HCELL.out (by omega)
      have HCL := Lib.hid hcl
      obtain ⟨e1, e2, e3⟩ := hcl i hil
      rw [← HB.out.cell (p := ⟨b, off + i * 3, none⟩) hb] at e1
      rw [← HB.out.cell (p := ⟨b, off + i * 3 + 1, none⟩) hb] at e2
      rw [← HB.out.cell (p := ⟨b, off + i * 3 + 2, none⟩) hb] at e3
      have HM := Lib.hid (List.getElem_mem hil)
      have HN := Lib.hid (fun h => hNo.out _ HM.out h)
      have HT := Lib.hid (List.take_succ_eq_append_getElem hil)
      have HLi := Lib.hid (HL.out _ HM.out)
      have HKT := Lib.hid (keys_take hil HS.out)
      have HTW := Lib.hid (fun k (hk : k < i) h => hTw.out i k hil hk h)
      obtain ⟨⟨n, p, o⟩, hx⟩ : ∃ f, L[i] = f := ⟨_, rfl⟩
      rw [hx] at e1 e2 e3 HM HN HT HLi
      simp only [hx] at HKT HTW
      simp only at e1 e2 e3
      have H1 := Lib.hid (fun W hb => refHostRt n HLi.out.1 W (HLD.out W hb))
      have H2 := Lib.hid (fun W hb => refHostRt o HLi.out.2.2 W (HLD.out W hb))
      have H3 := Lib.hid (fun W hb => refUriRight true [104] 0 p false [] (by simp) (Nat.le_trans HLi.out.2.1 (by omega)) (by simp) W (HLD.out W hb))
      have hP : preOk p = rightU true [104] 0 p false [] := rfl
      rw [← hP] at H3
      have hOK : routeOk (n, p, o) = ((n.isEmpty || hostOk n) && hostOk o && preOk p && decide (p.length ≤ 100)) := rfl
      obtain ⟨b1, g1⟩ : ∃ b, n.isEmpty = b := ⟨_, rfl⟩
      obtain ⟨b2, g2⟩ : ∃ b, hostOk n = b := ⟨_, rfl⟩
      obtain ⟨b3, g3⟩ : ∃ b, hostOk o = b := ⟨_, rfl⟩
      obtain ⟨b4, g4⟩ : ∃ b, decide (p.length ≤ 100) = b := ⟨_, rfl⟩
      obtain ⟨b5, g5⟩ : ∃ b, preOk p = b := ⟨_, rfl⟩
      rw [g2] at H1
      rw [g3] at H2
      rw [g5] at H3
      rw [g1, g2, g3, g4, g5] at hOK
      have g4' : decide ((p.length : Int) ≤ 100) = b4 := by rw [← g4]; exact decide_eq_decide.2 (by omega)
      have g4'' : decide ((100 : Int) < p.length) = !b4 := by rw [← g4, ← decide_not]; exact decide_eq_decide.2 (by omega)
      have hfar := far (show b < wr.heap.size by omega)
      clear hcl hx hP g2 g3 g4 g5
      cases hBk : routeOk (n, p, o) with
      | false =>
        have hRf := HN.out hBk
        rw [hBk] at hOK
        have hco : (b1 = false ∧ b2 = false) ∨ (b1 = true ∧ b3 = false) ∨ (b1 = false ∧ b2 = true ∧ b3 = false) ∨ (b1 = true ∧ b3 = true ∧ b4 = false) ∨ (b1 = false ∧ b2 = true ∧ b3 = true ∧ b4 = false) ∨ (b1 = true ∧ b3 = true ∧ b4 = true ∧ b5 = false) ∨ (b1 = false ∧ b2 = true ∧ b3 = true ∧ b4 = true ∧ b5 = false) := by
          revert hOK; cases b1 <;> cases b2 <;> cases b3 <;> cases b4 <;> cases b5 <;> simp
        subst hRf
        clear hOK hBk HN HTW HKT
        rcases hco with ⟨rfl, rfl⟩ | ⟨rfl, rfl⟩ | ⟨rfl, rfl, rfl⟩ | ⟨rfl, rfl, rfl⟩ | ⟨rfl, rfl, rfl, rfl⟩ | ⟨rfl, rfl, rfl, rfl⟩ | ⟨rfl, rfl, rfl, rfl, rfl⟩ <;>
        · have HBX := Lib.hid HB.out
          go_wp2_with (first
            | (go_at_call 27; (with_reducible refine Calls.mono (H1.out _ ?_) ?_); (focus (have := HBX.out; (repeat (first | with_reducible exact Below.refl _ _ | with_reducible assumption | with_reducible refine Below.drew ?_ | (with_reducible refine Below.setCell ?_ ?_ _; rotate_left; (first | omega | (simp <;> omega))) | (with_reducible refine Below.alloc ?_ ?_ _; rotate_left; (first | omega | (simp <;> omega))) | exact Below.refl _ _ | assumption)))); rintro e w1 ⟨rfl, hb1⟩; have HBX := Lib.hid (Below.trans (show Below w.heap.size w _ by (have := HBX.out; (repeat (first | with_reducible exact Below.refl _ _ | with_reducible assumption | with_reducible refine Below.drew ?_ | (with_reducible refine Below.setCell ?_ ?_ _; rotate_left; (first | omega | (simp <;> omega))) | (with_reducible refine Below.alloc ?_ ?_ _; rotate_left; (first | omega | (simp <;> omega))) | exact Below.refl _ _ | assumption)))) (hb1.mono (by (try simp only [World.size_alloc, World.size_setCell]); omega))); obtain ⟨hcc1, hff1⟩ := bk hb1 wr.heap.size (by (try simp only [World.size_alloc, World.size_setCell]); omega); have hz1 := hb1.size; (try simp only [World.size_alloc, World.size_setCell] at hz1); clear hb1)
            | (go_at_call 27; (with_reducible refine Calls.mono (H2.out _ ?_) ?_); (focus (have := HBX.out; (repeat (first | with_reducible exact Below.refl _ _ | with_reducible assumption | with_reducible refine Below.drew ?_ | (with_reducible refine Below.setCell ?_ ?_ _; rotate_left; (first | omega | (simp <;> omega))) | (with_reducible refine Below.alloc ?_ ?_ _; rotate_left; (first | omega | (simp <;> omega))) | exact Below.refl _ _ | assumption)))); rintro e w2 ⟨rfl, hb1⟩; have HBX := Lib.hid (Below.trans (show Below w.heap.size w _ by (have := HBX.out; (repeat (first | with_reducible exact Below.refl _ _ | with_reducible assumption | with_reducible refine Below.drew ?_ | (with_reducible refine Below.setCell ?_ ?_ _; rotate_left; (first | omega | (simp <;> omega))) | (with_reducible refine Below.alloc ?_ ?_ _; rotate_left; (first | omega | (simp <;> omega))) | exact Below.refl _ _ | assumption)))) (hb1.mono (by (try simp only [World.size_alloc, World.size_setCell]); omega))); obtain ⟨hcc2, hff2⟩ := bk hb1 wr.heap.size (by (try simp only [World.size_alloc, World.size_setCell]); omega); have hz2 := hb1.size; (try simp only [World.size_alloc, World.size_setCell] at hz2); clear hb1)
            | (go_at_call 28; (with_reducible refine Calls.mono (H3.out _ ?_) ?_); (focus (have := HBX.out; (repeat (first | with_reducible exact Below.refl _ _ | with_reducible assumption | with_reducible refine Below.drew ?_ | (with_reducible refine Below.setCell ?_ ?_ _; rotate_left; (first | omega | (simp <;> omega))) | (with_reducible refine Below.alloc ?_ ?_ _; rotate_left; (first | omega | (simp <;> omega))) | exact Below.refl _ _ | assumption)))); rintro e w3 ⟨rfl, hb1⟩; have HBX := Lib.hid (Below.trans (show Below w.heap.size w _ by (have := HBX.out; (repeat (first | with_reducible exact Below.refl _ _ | with_reducible assumption | with_reducible refine Below.drew ?_ | (with_reducible refine Below.setCell ?_ ?_ _; rotate_left; (first | omega | (simp <;> omega))) | (with_reducible refine Below.alloc ?_ ?_ _; rotate_left; (first | omega | (simp <;> omega))) | exact Below.refl _ _ | assumption)))) (hb1.mono (by (try simp only [World.size_alloc, World.size_setCell]); omega))); clear hb1)
            | fail)
          go_ret
          exact ⟨rfl, HBX.out⟩
      | true =>
        rw [hBk] at hOK
        have hco : (b1 = true ∧ b3 = true ∧ b4 = true ∧ b5 = true) ∨ (b1 = false ∧ b2 = true ∧ b3 = true ∧ b4 = true ∧ b5 = true) := by
          revert hOK; cases b1 <;> cases b2 <;> cases b3 <;> cases b4 <;> cases b5 <;> simp
        have HBk := Lib.hid hBk
        clear hOK hBk HN
        rcases hco with ⟨rfl, rfl, rfl, rfl⟩ | ⟨rfl, rfl, rfl, rfl, rfl⟩ <;>
        · have HBX := Lib.hid HB.out
          go_wp2_with (first
            | (go_at_call 27; (with_reducible refine Calls.mono (H1.out _ ?_) ?_); (focus (have := HBX.out; (repeat (first | with_reducible exact Below.refl _ _ | with_reducible assumption | with_reducible refine Below.drew ?_ | (with_reducible refine Below.setCell ?_ ?_ _; rotate_left; (first | omega | (simp <;> omega))) | (with_reducible refine Below.alloc ?_ ?_ _; rotate_left; (first | omega | (simp <;> omega))) | exact Below.refl _ _ | assumption)))); rintro e w1 ⟨rfl, hb1⟩; have HBX := Lib.hid (Below.trans (show Below w.heap.size w _ by (have := HBX.out; (repeat (first | with_reducible exact Below.refl _ _ | with_reducible assumption | with_reducible refine Below.drew ?_ | (with_reducible refine Below.setCell ?_ ?_ _; rotate_left; (first | omega | (simp <;> omega))) | (with_reducible refine Below.alloc ?_ ?_ _; rotate_left; (first | omega | (simp <;> omega))) | exact Below.refl _ _ | assumption)))) (hb1.mono (by (try simp only [World.size_alloc, World.size_setCell]); omega))); obtain ⟨hcc1, hff1⟩ := bk hb1 wr.heap.size (by (try simp only [World.size_alloc, World.size_setCell]); omega); have hz1 := hb1.size; (try simp only [World.size_alloc, World.size_setCell] at hz1); clear hb1)
            | (go_at_call 27; (with_reducible refine Calls.mono (H2.out _ ?_) ?_); (focus (have := HBX.out; (repeat (first | with_reducible exact Below.refl _ _ | with_reducible assumption | with_reducible refine Below.drew ?_ | (with_reducible refine Below.setCell ?_ ?_ _; rotate_left; (first | omega | (simp <;> omega))) | (with_reducible refine Below.alloc ?_ ?_ _; rotate_left; (first | omega | (simp <;> omega))) | exact Below.refl _ _ | assumption)))); rintro e w2 ⟨rfl, hb1⟩; have HBX := Lib.hid (Below.trans (show Below w.heap.size w _ by (have := HBX.out; (repeat (first | with_reducible exact Below.refl _ _ | with_reducible assumption | with_reducible refine Below.drew ?_ | (with_reducible refine Below.setCell ?_ ?_ _; rotate_left; (first | omega | (simp <;> omega))) | (with_reducible refine Below.alloc ?_ ?_ _; rotate_left; (first | omega | (simp <;> omega))) | exact Below.refl _ _ | assumption)))) (hb1.mono (by (try simp only [World.size_alloc, World.size_setCell]); omega))); obtain ⟨hcc2, hff2⟩ := bk hb1 wr.heap.size (by (try simp only [World.size_alloc, World.size_setCell]); omega); have hz2 := hb1.size; (try simp only [World.size_alloc, World.size_setCell] at hz2); clear hb1)
            | (go_at_call 28; (with_reducible refine Calls.mono (H3.out _ ?_) ?_); (focus (have := HBX.out; (repeat (first | with_reducible exact Below.refl _ _ | with_reducible assumption | with_reducible refine Below.drew ?_ | (with_reducible refine Below.setCell ?_ ?_ _; rotate_left; (first | omega | (simp <;> omega))) | (with_reducible refine Below.alloc ?_ ?_ _; rotate_left; (first | omega | (simp <;> omega))) | exact Below.refl _ _ | assumption)))); rintro e w3 ⟨rfl, hb1⟩; have HBX := Lib.hid (Below.trans (show Below w.heap.size w _ by (have := HBX.out; (repeat (first | with_reducible exact Below.refl _ _ | with_reducible assumption | with_reducible refine Below.drew ?_ | (with_reducible refine Below.setCell ?_ ?_ _; rotate_left; (first | omega | (simp <;> omega))) | (with_reducible refine Below.alloc ?_ ?_ _; rotate_left; (first | omega | (simp <;> omega))) | exact Below.refl _ _ | assumption)))) (hb1.mono (by (try simp only [World.size_alloc, World.size_setCell]); omega))); obtain ⟨hcc3, hff3⟩ := bk hb1 wr.heap.size (by (try simp only [World.size_alloc, World.size_setCell]); omega); have hz3 := hb1.size; (try simp only [World.size_alloc, World.size_setCell] at hz3); clear hb1)
            | fail)
          have q1 := hcc3 0
          have q2 := hcc3 1
          conv at q1 => rhs; simp [go_sem, *]
          conv at q2 => rhs; simp [go_sem, *]
          have hbx := HBX.out
          obtain ⟨B0, hB0⟩ : ∃ B0, wr.heap.size = B0 := ⟨_, rfl⟩
          simp only [hB0] at q1 q2 hz3 hz ⊢
          have hzz : B0 < w3.heap.size := by omega
          clear hcc3 hff3 HBX
          (try clear hcc1 hff1 hz1)
          (try clear hcc2 hff2 hz2)
          clear e1 e2 e3 hfar hz3 hB0
          go_loopw [5] (fun kv wk => ∃ k : Nat, kv = .int .i64 k ∧ k ≤ i ∧ (∀ j (hj : j < i), j < k → keyR (L[j]'(by omega)) ≠ (n, p)) ∧ B0 < wk.heap.size ∧ wk.cell? ⟨B0, 0, none⟩ = some (.string (S n)) ∧ wk.cell? ⟨B0, 1, none⟩ = some (.string (S p)) ∧ Below w.heap.size w wk) (fun kv _ => i - (intOf kv).toNat)
          case atStart => exact ⟨0, rfl, Nat.zero_le _, (fun j hj h => absurd h (by omega)), hzz, q1, q2, hbx⟩
          case round =>
            obtain ⟨k, rfl, hk, hne, hzk, q1, q2, hBk2⟩ := hrel
            have HNE := Lib.hid hne
            have HBY := Lib.hid hBk2
            have hz4 := hBk2.size
            clear hne hBk2
            by_cases hki : k < i
            · obtain ⟨e1, e2, e3⟩ := HCL.out k (by omega)
              rw [← HBY.out.cell (p := ⟨b, off + k * 3, none⟩) hb] at e1
              rw [← HBY.out.cell (p := ⟨b, off + k * 3 + 1, none⟩) hb] at e2
              have HTK := Lib.hid (HTW.out k hki)
              obtain ⟨⟨n2, p2, o2⟩, hx2⟩ : ∃ f, L[k]'(by omega) = f := ⟨_, rfl⟩
              have HX2 := Lib.hid hx2
              rw [hx2] at e1 e2 HTK
              simp only at e1 e2
              clear e3 hx2
              have hfar1 := far (show b < wr.heap.size by omega)
              have hfar2 := far hzk
              by_cases hnn : n2 = n
              · by_cases hpp : p2 = p
                · have hRf : R = false := HTK.out (by show (n2, p2) = (n, p); rw [hnn, hpp])
                  subst hRf
                  subst hnn
                  subst hpp
                  go_wp2_with fail
                  refine wp_region_later (wr.heap.size) (by kernel_rfl) (by kernel_rfl) ?_
                  have l_w6_vB0 := @Later.at (wr.heap.size) (B0) (by omega)
                  have l_w6_vb := @Later.at (wr.heap.size) (b) (by omega)
                  repeat (go_big_quiet_step (fail))
                  refine wpQuiet_nil ?_
                  rintro w6 ⟨⟨_, hb_w6⟩, rfl⟩
                  clear l_w6_vB0 l_w6_vb
                  try simp only [] at hb_w6 ⊢
                  have hz_w6 := hb_w6.size
                  try simp at hz_w6
                  have c_w6_vB0 := fun o => hb_w6.cell (p := ⟨B0, o, none⟩) (by first | omega | (simp <;> omega))
                  have f_w6_vB0 := fun o => hb_w6.frozen (p := ⟨B0, o, none⟩) (by first | omega | (simp <;> omega))
                  have c_w6_vB0_0 := c_w6_vB0 0; conv at c_w6_vB0_0 => rhs; simp [go_sem, *]
                  have f_w6_vB0_0 := f_w6_vB0 0; conv at f_w6_vB0_0 => rhs; simp [go_sem, *]
                  have c_w6_vB0_1 := c_w6_vB0 1; conv at c_w6_vB0_1 => rhs; simp [go_sem, *]
                  have f_w6_vB0_1 := f_w6_vB0 1; conv at f_w6_vB0_1 => rhs; simp [go_sem, *]
                  have c_w6_vb := fun o => hb_w6.cell (p := ⟨b, o, none⟩) (by first | omega | (simp <;> omega))
                  have f_w6_vb := fun o => hb_w6.frozen (p := ⟨b, o, none⟩) (by first | omega | (simp <;> omega))
                  have HH_w6 := Lib.hid hb_w6
                  have hB_w6 : Below wr.heap.size wr w6 := Below.trans (by (repeat (first | with_reducible exact Below.refl _ _ | with_reducible assumption | with_reducible refine Below.drew ?_ | (with_reducible refine Below.setCell ?_ ?_ _; rotate_left; (first | omega | (simp <;> omega))) | (with_reducible refine Below.alloc ?_ ?_ _; rotate_left; (first | omega | (simp <;> omega))) | exact Below.refl _ _ | assumption))) (hb_w6.mono (by first | omega | (simp <;> omega)))
                  clear hb_w6 c_w6_vB0 f_w6_vB0 c_w6_vb f_w6_vb
                  have far_w6_vB0 := far (show B0 < w6.heap.size by omega)
                  have far_w6_vb := far (show b < w6.heap.size by omega)
                  go_wp2
                  go_ret
                  exact ⟨rfl, HBY.out.trans (hB_w6.mono HBY.out.size)⟩
                · have r2 : (p2 == p) = false := by simpa using hpp
                  have r2' : (p2 = p) = False := eq_false hpp
                  subst hnn
                  have HNN := Lib.hid (show keyR (L[k]'(by omega)) ≠ (n2, p) by rw [HX2.out]; intro h; exact hpp (congrArg Prod.snd h))
                  go_wp2_with fail
                  refine wp_region_later (wr.heap.size) (by kernel_rfl) (by kernel_rfl) ?_
                  have l_w6_vB0 := @Later.at (wr.heap.size) (B0) (by omega)
                  have l_w6_vb := @Later.at (wr.heap.size) (b) (by omega)
                  repeat (go_big_quiet_step (fail))
                  refine wpQuiet_nil ?_
                  rintro w6 ⟨⟨_, hb_w6⟩, rfl⟩
                  clear l_w6_vB0 l_w6_vb
                  try simp only [] at hb_w6 ⊢
                  have hz_w6 := hb_w6.size
                  try simp at hz_w6
                  have c_w6_vB0 := fun o => hb_w6.cell (p := ⟨B0, o, none⟩) (by first | omega | (simp <;> omega))
                  have f_w6_vB0 := fun o => hb_w6.frozen (p := ⟨B0, o, none⟩) (by first | omega | (simp <;> omega))
                  have c_w6_vB0_0 := c_w6_vB0 0; conv at c_w6_vB0_0 => rhs; simp [go_sem, *]
                  have f_w6_vB0_0 := f_w6_vB0 0; conv at f_w6_vB0_0 => rhs; simp [go_sem, *]
                  have c_w6_vB0_1 := c_w6_vB0 1; conv at c_w6_vB0_1 => rhs; simp [go_sem, *]
                  have f_w6_vB0_1 := f_w6_vB0 1; conv at f_w6_vB0_1 => rhs; simp [go_sem, *]
                  have c_w6_vb := fun o => hb_w6.cell (p := ⟨b, o, none⟩) (by first | omega | (simp <;> omega))
                  have f_w6_vb := fun o => hb_w6.frozen (p := ⟨b, o, none⟩) (by first | omega | (simp <;> omega))
                  have HH_w6 := Lib.hid hb_w6
                  have hB_w6 : Below wr.heap.size wr w6 := Below.trans (by (repeat (first | with_reducible exact Below.refl _ _ | with_reducible assumption | with_reducible refine Below.drew ?_ | (with_reducible refine Below.setCell ?_ ?_ _; rotate_left; (first | omega | (simp <;> omega))) | (with_reducible refine Below.alloc ?_ ?_ _; rotate_left; (first | omega | (simp <;> omega))) | exact Below.refl _ _ | assumption))) (hb_w6.mono (by first | omega | (simp <;> omega)))
                  clear hb_w6 c_w6_vB0 f_w6_vB0 c_w6_vb f_w6_vb
                  have far_w6_vB0 := far (show B0 < w6.heap.size by omega)
                  have far_w6_vb := far (show b < w6.heap.size by omega)
                  go_wp2
                  go_roundw
                  case rel =>
                    refine ⟨k + 1, by go_num, by omega, fun j hj hjk => ?_, by omega, c_w6_vB0_0, c_w6_vB0_1, HBY.out.trans (hB_w6.mono HBY.out.size)⟩
                    rcases (show j < k ∨ j = k by omega) with h | h
                    · exact HNE.out j hj h
                    · subst h; exact HNN.out
                  case measure => simp [intOf]; omega
              · have r1 : (n2 == n) = false := by simpa using hnn
                have r1' : (n2 = n) = False := eq_false hnn
                have HNN := Lib.hid (show keyR (L[k]'(by omega)) ≠ (n, p) by rw [HX2.out]; intro h; exact hnn (congrArg Prod.fst h))
                go_wp2_with fail
                refine wp_region_later (wr.heap.size) (by kernel_rfl) (by kernel_rfl) ?_
                have l_w6_vB0 := @Later.at (wr.heap.size) (B0) (by omega)
                have l_w6_vb := @Later.at (wr.heap.size) (b) (by omega)
                repeat (go_big_quiet_step (fail))
                refine wpQuiet_nil ?_
                rintro w6 ⟨⟨_, hb_w6⟩, rfl⟩
                clear l_w6_vB0 l_w6_vb
                try simp only [] at hb_w6 ⊢
                have hz_w6 := hb_w6.size
                try simp at hz_w6
                have c_w6_vB0 := fun o => hb_w6.cell (p := ⟨B0, o, none⟩) (by first | omega | (simp <;> omega))
                have f_w6_vB0 := fun o => hb_w6.frozen (p := ⟨B0, o, none⟩) (by first | omega | (simp <;> omega))
                have c_w6_vB0_0 := c_w6_vB0 0; conv at c_w6_vB0_0 => rhs; simp [go_sem, *]
                have f_w6_vB0_0 := f_w6_vB0 0; conv at f_w6_vB0_0 => rhs; simp [go_sem, *]
                have c_w6_vB0_1 := c_w6_vB0 1; conv at c_w6_vB0_1 => rhs; simp [go_sem, *]
                have f_w6_vB0_1 := f_w6_vB0 1; conv at f_w6_vB0_1 => rhs; simp [go_sem, *]
                have c_w6_vb := fun o => hb_w6.cell (p := ⟨b, o, none⟩) (by first | omega | (simp <;> omega))
                have f_w6_vb := fun o => hb_w6.frozen (p := ⟨b, o, none⟩) (by first | omega | (simp <;> omega))
                have HH_w6 := Lib.hid hb_w6
                have hB_w6 : Below wr.heap.size wr w6 := Below.trans (by (repeat (first | with_reducible exact Below.refl _ _ | with_reducible assumption | with_reducible refine Below.drew ?_ | (with_reducible refine Below.setCell ?_ ?_ _; rotate_left; (first | omega | (simp <;> omega))) | (with_reducible refine Below.alloc ?_ ?_ _; rotate_left; (first | omega | (simp <;> omega))) | exact Below.refl _ _ | assumption))) (hb_w6.mono (by first | omega | (simp <;> omega)))
                clear hb_w6 c_w6_vB0 f_w6_vB0 c_w6_vb f_w6_vb
                have far_w6_vB0 := far (show B0 < w6.heap.size by omega)
                have far_w6_vb := far (show b < w6.heap.size by omega)
                go_wp2
                go_roundw
                case rel =>
                  refine ⟨k + 1, by go_num, by omega, fun j hj hjk => ?_, by omega, c_w6_vB0_0, c_w6_vB0_1, HBY.out.trans (hB_w6.mono HBY.out.size)⟩
                  rcases (show j < k ∨ j = k by omega) with h | h
                  · exact HNE.out j hj h
                  · subst h; exact HNN.out
                case measure => simp [intOf]; omega
            · obtain rfl : k = i := by omega
              have HKK := Lib.hid (HKT.out (fun j hj => HNE.out j hj hj))
              go_wp2
              go_roundw
              case rel =>
                refine ⟨k + 1, by go_num, by omega, ?_, HKK.out, HBY.out⟩
                rw [HT.out]
                intro r hr
                rcases List.mem_append.1 hr with h | h
                · exact HA.out r h
                · obtain rfl : r = (n, p, o) := by simpa using h
                  exact HBk.out
              case measure => simp [intOf]; omega
    · obtain rfl : i = L.length := by omega
      have hall := HA.out
      have hs := HS.out
      rw [List.take_length] at hall hs
      have hY := hYes.out hall hs
      clear hall hs
      subst hY
      go_wp2
      go_ret
      exact ⟨rfl, HB.out⟩
end Go.Proofs.YtgjemgilanhdiaaGreatDoor
