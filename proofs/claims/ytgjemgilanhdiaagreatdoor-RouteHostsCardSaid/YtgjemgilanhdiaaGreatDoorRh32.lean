/- Whether a row of routes may be: the walk of route.Right. -/
import Derived.Test.YtgjemgilanhdiaaGreatDoorRh31
namespace Go.Proofs.YtgjemgilanhdiaaGreatDoor
open Go.RowKit Go.Sort Go.Shelf
set_option linter.unusedVariables false
set_option linter.unusedSimpArgs false

theorem rightRt_all {L : List Wrd} (h : ∀ r ∈ L, routeOk r = true) : rightRt L = (decide ((L.length : Int) ≤ 16) && decide ((L.map keyR).Nodup)) := by
  unfold rightRt
  rw [List.all_eq_true.2 h, Bool.true_and]
  congr 1
  exact decide_eq_decide.2 (by omega)
theorem rightRt_not {L : List Wrd} {r : Wrd} (hr : r ∈ L) (h : routeOk r = false) : rightRt L = false := by
  unfold rightRt
  have : L.all routeOk = false := by
    rw [List.all_eq_false]
    exact ⟨r, hr, by simp [h]⟩
  rw [this]; rfl

set_option maxHeartbeats 3200000 in
set_option maxRecDepth 100000 in
theorem routesRight (v : Value) (L : List Wrd) (w : World) (hr : ReadsW w v L) (hl : ∀ f ∈ L, f.1.length ≤ 900 ∧ f.2.1.length ≤ 900 ∧ f.2.2.length ≤ 900) (hn : L.length ≤ 1000000) (hLd : Laid w) :
    Calls Tryz.prog 9 #[v] w fun e w' => e = .returned (.bool (rightRt L)) ∧ Below w.heap.size w w' := by
  obtain ⟨R, hR⟩ : ∃ R, rightRt L = R := ⟨_, rfl⟩
  have hYes := Lib.hid (@rightRt_all L)
  have hNo := Lib.hid (fun r => @rightRt_not L r)
  rw [hR] at hYes hNo ⊢
  have HR := Lib.hid hr
  have HL := Lib.hid hl
  have RR := Lib.hid (fun (f : Wrd) h W hb => routeRight f (hl f h).1 (hl f h).2.1 (hl f h).2.2 W (hLd.on hb))
  obtain ⟨ao, cap, rfl, hc1, hc2, hc3, hcell⟩ := hr
  have HCELL := Lib.hid hcell
  have hm : maxLen = 9223372036854775807 := rfl
  rw [hm] at hc2
  have S0 := Lib.hid (KeysIs.made w)
  have hb0 := Lib.hid (show Below w.heap.size w (w.alloc (.map #[] 0)) from (Below.refl _ _).alloc (Nat.le_refl _) _)
  have hmm := @run_makeMap Tryz.prog
  clear hR hl hLd hcell hm hc3
  go_enter Tryz.func9, Tryz.ntmps9
  go_wp2
  go_loopw [9] (fun iv wr => ∃ i : Nat, iv = .int .i64 i ∧ i ≤ L.length ∧ (∀ r ∈ L.take i, routeOk r = true) ∧ KeysIs wr w.heap.size i ((L.take i).map keyR) ∧ Below w.heap.size w wr) (fun iv _ => L.length - (intOf iv).toNat)
  case atStart => exact ⟨0, rfl, Nat.zero_le _, by simp, S0.out, hb0.out⟩
  case round =>
    obtain ⟨i, rfl, hi, hall, hset, hB⟩ := hrel
    have HA := Lib.hid hall
    have HS := Lib.hid hset
    have HB := Lib.hid hB
    have hz := hB.size
    have hlt0 := hset.lt
    clear hall hset hB
    by_cases hil : i < L.length
    · obtain ⟨b, off, rfl, hb, hcl⟩ := HCELL.out (by omega)
      obtain ⟨e1, e2, e3⟩ := hcl i hil
      rw [← HB.out.cell (p := ⟨b, off + i * 3, none⟩) hb] at e1
      rw [← HB.out.cell (p := ⟨b, off + i * 3 + 1, none⟩) hb] at e2
      rw [← HB.out.cell (p := ⟨b, off + i * 3 + 2, none⟩) hb] at e3
      have HM := Lib.hid (List.getElem_mem hil)
      have RI := Lib.hid (fun W hb => RR.out _ HM.out W hb)
      have HN := Lib.hid (fun h => hNo.out _ HM.out h)
      have HT := Lib.hid (List.take_succ_eq_append_getElem hil)
      have HLi := Lib.hid (HL.out _ HM.out)
      obtain ⟨⟨x1, x2, x3⟩, hx⟩ : ∃ f, L[i] = f := ⟨_, rfl⟩
      rw [hx] at e1 e2 e3 HM RI HN HT HLi
      obtain ⟨B, hBk⟩ : ∃ B, routeOk (x1, x2, x3) = B := ⟨_, rfl⟩
      rw [hBk] at RI HN
      have HBk := Lib.hid hBk
      simp only at e1 e2 e3
      have hfar := far (show b < wr.heap.size by omega)
      clear hcl hx hBk
      cases B with
      | false =>
        have hRf := HN.out rfl
        subst hRf
        go_wp2_with (go_at_call 26; (with_reducible refine Calls.mono (RI.out _ ?_) ?_); (focus (have := HB.out; (repeat (first | (with_reducible exact Below.refl _ _) | (with_reducible assumption) | (with_reducible refine Below.drew ?_) | (focus ((with_reducible refine Below.setCell ?_ ?_ _); rotate_left; (first | omega | (simp <;> omega)))) | (focus ((with_reducible refine Below.alloc ?_ ?_ _); rotate_left; (first | omega | (simp <;> omega)))) | exact Below.refl _ _ | assumption | refine Below.drew ?_ | refine Below.alloc ?_ (by first | omega | (simp <;> omega)) _ | refine Below.setCell ?_ (by first | omega | (simp <;> omega)) _)))); rintro e w1 ⟨rfl, hb1⟩; have HB1 := Lib.hid (Below.trans (show Below w.heap.size w _ by (have := HB.out; (repeat (first | (with_reducible exact Below.refl _ _) | (with_reducible assumption) | (with_reducible refine Below.drew ?_) | (focus ((with_reducible refine Below.setCell ?_ ?_ _); rotate_left; (first | omega | (simp <;> omega)))) | (focus ((with_reducible refine Below.alloc ?_ ?_ _); rotate_left; (first | omega | (simp <;> omega)))) | exact Below.refl _ _ | assumption | refine Below.drew ?_ | refine Below.alloc ?_ (by first | omega | (simp <;> omega)) _ | refine Below.setCell ?_ (by first | omega | (simp <;> omega)) _)))) (hb1.mono (by simp <;> omega))); clear hb1)
        go_ret
        exact ⟨rfl, HB1.out⟩
      | true =>
        go_wp2_with (first
          | (go_at_call 26; (with_reducible refine Calls.mono (RI.out _ ?_) ?_); (focus (have := HB.out; (repeat (first | (with_reducible exact Below.refl _ _) | (with_reducible assumption) | (with_reducible refine Below.drew ?_) | (focus ((with_reducible refine Below.setCell ?_ ?_ _); rotate_left; (first | omega | (simp <;> omega)))) | (focus ((with_reducible refine Below.alloc ?_ ?_ _); rotate_left; (first | omega | (simp <;> omega)))) | exact Below.refl _ _ | assumption | refine Below.drew ?_ | refine Below.alloc ?_ (by first | omega | (simp <;> omega)) _ | refine Below.setCell ?_ (by first | omega | (simp <;> omega)) _)))); rintro e w1 ⟨rfl, hb1⟩; have HS1 := Lib.hid (HS.out.below (Below.trans (show Below wr.heap.size wr _ by (repeat (first | (with_reducible exact Below.refl _ _) | (with_reducible assumption) | (with_reducible refine Below.drew ?_) | (focus ((with_reducible refine Below.setCell ?_ ?_ _); rotate_left; (first | omega | (simp <;> omega)))) | (focus ((with_reducible refine Below.alloc ?_ ?_ _); rotate_left; (first | omega | (simp <;> omega)))) | exact Below.refl _ _ | assumption | refine Below.drew ?_ | refine Below.alloc ?_ (by first | omega | (simp <;> omega)) _ | refine Below.setCell ?_ (by first | omega | (simp <;> omega)) _))) (hb1.mono (by simp)))); have HB1 := Lib.hid (Below.trans (show Below w.heap.size w _ by (have := HB.out; (repeat (first | (with_reducible exact Below.refl _ _) | (with_reducible assumption) | (with_reducible refine Below.drew ?_) | (focus ((with_reducible refine Below.setCell ?_ ?_ _); rotate_left; (first | omega | (simp <;> omega)))) | (focus ((with_reducible refine Below.alloc ?_ ?_ _); rotate_left; (first | omega | (simp <;> omega)))) | exact Below.refl _ _ | assumption | refine Below.drew ?_ | refine Below.alloc ?_ (by first | omega | (simp <;> omega)) _ | refine Below.setCell ?_ (by first | omega | (simp <;> omega)) _)))) (hb1.mono (by simp <;> omega))); obtain ⟨hcc1, hff1⟩ := bk hb1 wr.heap.size (by simp); have hz1 := hb1.size; (try simp only [World.size_alloc, World.size_setCell] at hz1); clear hb1)
          | (at_mapUpdate; refine wp_keys_add rfl _ _ _ rfl _ w.heap.size i ((L.take i).map keyR) (HS1.out) (by omega) (x1, x2) ⟨by have := HLi.out; simp only at this ⊢; omega, by have := HLi.out; simp only at this ⊢; omega⟩ rfl rfl rfl ?_; intro w5 hs5 hg5; have HS5 := Lib.hid hs5; have HB5 := Lib.hid (Below.keys_grown (B := w.heap.size) hg5 (Nat.le_refl _) (by omega)); clear hs5 hg5)
          | fail)
        go_roundw
        case rel =>
          refine ⟨i + 1, by go_num, by omega, ?_, ?_, HB1.out.trans HB5.out⟩
          · rw [HT.out]
            intro r hr
            rcases List.mem_append.1 hr with h | h
            · exact HA.out r h
            · obtain rfl : r = (x1, x2, x3) := by simpa using h
              exact HBk.out
          · rw [HT.out, List.map_append]; exact HS5.out
        case measure => simp [intOf]; omega
    · obtain rfl : i = L.length := by omega
      have hall := HA.out
      have hs := HS.out
      rw [List.take_length] at hall hs
      have hY := hYes.out hall
      obtain ⟨s, hs1, hs2, hs3⟩ := hs.len
      rw [List.length_map] at hs1 hs2
      have hq : decide ((L.map keyR).Nodup) = ((s : Int) == (L.length : Int)) := by
        rw [Bool.eq_iff_iff, decide_eq_true_eq, beq_iff_eq, ← hs2]; omega
      rw [hq] at hY
      have HBB := HB.out
      have HBX := Lib.hid HBB
      clear hall hs hs2 hq HBB
      by_cases h16 : (L.length : Int) ≤ 16
      · have h16' : decide ((L.length : Int) ≤ 16) = true := by simpa using h16
        rw [h16'] at hY
        obtain ⟨q, hq⟩ : ∃ q, ((s : Int) == (L.length : Int)) = q := ⟨_, rfl⟩
        rw [hq] at hY
        cases q with
        | true =>
          have hR2 : R = true := by simpa using hY
          subst hR2
          clear hY
          go_wp2
          go_ret
          exact ⟨rfl, HBX.out⟩
        | false =>
          have hR2 : R = false := by simpa using hY
          subst hR2
          clear hY
          go_wp2
          go_ret
          exact ⟨rfl, HBX.out⟩
      · have h16' : decide ((L.length : Int) ≤ 16) = false := by simpa using h16
        rw [h16'] at hY
        have hR2 := hY
        subst hR2
        go_wp2
        go_ret
        exact ⟨rfl, HBX.out⟩
end Go.Proofs.YtgjemgilanhdiaaGreatDoor
