/- Where a row of fields has one of some kind: slices.IndexFunc, ContainsFunc at fields; which rows may be; two rows compared: the walks. Which rows may be; two rows compared; adding: the walks. -/
import Derived.Test.YtcfihoniocamaaaGreatDoorPk9
namespace Go.Proofs.YtcfihoniocamaaaGreatDoor
open Go.RowKit Go.Sort Go.Shelf
set_option linter.unusedVariables false

/-- Where the first one is. -/
def IdxIs (p : Fld → Bool) (L : List Fld) (r : Int) : Prop :=
  (r = -1 ∧ ∀ j (h : j < L.length), p L[j] = false) ∨ ∃ i : Nat, r = i ∧ ∃ h : i < L.length, p L[i] = true ∧ ∀ j (h : j < L.length), j < i → p L[j] = false
theorem IdxIs.any {p : Fld → Bool} {L : List Fld} {r : Int} (h : IdxIs p L r) : decide (0 ≤ r) = L.any p := by
  rcases h with ⟨rfl, h⟩ | ⟨i, rfl, hi, h1, _⟩
  · symm
    simp only [Int.reduceNeg, Int.reduceLE, decide_false]
    rw [List.any_eq_false]
    intro f hf
    obtain ⟨j, hj, rfl⟩ := List.getElem_of_mem hf
    simp [h j hj]
  · rw [List.any_eq_true.2 ⟨_, List.getElem_mem hi, h1⟩]
    simp

set_option maxHeartbeats 1600000 in
theorem idxFld (fn : Nat) (lb : Array Value) (p : Fld → Bool) (eg : ∀ args w, (callFunc fn args).run Tryz.prog w = .ok (.enter fn args) w) (v : Value) (L : List Fld) (W : World) (hr : ReadsF W v L)
    (hcl : ∀ f, f ∈ L → ∀ W', Below W.heap.size W W' → Calls Tryz.prog fn (#[fv f] ++ lb) W' fun e w' => e = .returned (.bool (p f)) ∧ Below W'.heap.size W' w') :
    Calls Tryz.prog 53 #[v, .func (.func fn) #[] lb] W fun e w' => ∃ r, e = .returned (.int .i64 r) ∧ IdxIs p L r ∧ Below W.heap.size W w' := by
  obtain ⟨ao, cap, rfl, hc1, hc2, hc3, hcell⟩ := hr
  have hm : maxLen = 9223372036854775807 := rfl
  rw [hm] at hc2
  have HC := Lib.hid hcell
  have HF := Lib.hid hcl
  clear hm hcell hcl hc3
  go_enter Tryz.func53, Tryz.ntmps53
  go_wp2
  go_loopw [8] (fun iv wr => ∃ i : Nat, iv = .int .i64 i ∧ i ≤ L.length ∧ (∀ j (h : j < L.length), j < i → p L[j] = false) ∧ Below W.heap.size W wr) (fun iv _ => L.length - (intOf iv).toNat)
  case atStart => exact ⟨0, rfl, Nat.zero_le _, fun j _ h => by omega, by (repeat (first | (with_reducible exact Below.refl _ _) | (with_reducible assumption) | (with_reducible refine Below.drew ?_) | (focus ((with_reducible refine Below.setCell ?_ ?_ _); rotate_left; (first | omega | (simp <;> omega)))) | (focus ((with_reducible refine Below.alloc ?_ ?_ _); rotate_left; (first | omega | (simp <;> omega)))) | exact Below.refl _ _ | assumption | refine Below.drew ?_ | refine Below.alloc ?_ (by first | omega | (simp <;> omega)) _ | refine Below.setCell ?_ (by first | omega | (simp <;> omega)) _))⟩
  case round =>
    obtain ⟨i, rfl, hi, hall, hB⟩ := hrel
    have HA := Lib.hid hall
    have hz := hB.size
    clear hall
    by_cases hlt : i < L.length
    · obtain ⟨b, off, rfl, hb, hcl⟩ := HC.out (by omega)
      obtain ⟨e1, e2⟩ := hcl i hlt
      rw [← hB.cell (p := ⟨b, off + i * 2, none⟩) hb] at e1
      rw [← hB.cell (p := ⟨b, off + i * 2 + 1, none⟩) hb] at e2
      have hcall := HF.out L[i] (List.getElem_mem hlt) wr hB
      have HYES := Lib.hid (show p L[i] = true → IdxIs p L i from fun h => .inr ⟨i, rfl, hlt, h, HA.out⟩)
      have HNO := Lib.hid (show p L[i] = false → ∀ j (h : j < L.length), j < i + 1 → p L[j] = false from fun h j hj hji => by
        by_cases e : j = i
        · subst e; exact h
        · exact HA.out j hj (by omega))
      obtain ⟨⟨n, x⟩, hf⟩ : ∃ f, L[i] = f := ⟨_, rfl⟩
      rw [hf] at e1 e2 hcall HYES HNO
      obtain ⟨y, hy⟩ : ∃ y, p (n, x) = y := ⟨_, rfl⟩
      rw [hy] at hcall HYES HNO
      have hcall : Calls Tryz.prog fn (#[.agg #[.string (S n), .string (S x)]] ++ lb) wr fun e w' => e = .returned (.bool y) ∧ Below wr.heap.size wr w' := hcall
      simp only at e1 e2
      clear hcl hf hy
      cases y with
      | true =>
        go_wp2_with (go_at_fn fn; refine hcall.mono ?_; rintro e w' ⟨rfl, hb1⟩)
        go_ret
        exact ⟨_, rfl, HYES.out trivial, hB.trans (hb1.mono hz)⟩
      | false =>
        go_wp2_with (go_at_fn fn; refine hcall.mono ?_; rintro e w' ⟨rfl, hb1⟩)
        go_roundw
        case rel => exact ⟨i + 1, by go_num, by omega, HNO.out trivial, hB.trans (hb1.mono hz)⟩
        case measure => simp [intOf]; omega
    · have H := Lib.hid (show IdxIs p L (-1) from .inl ⟨rfl, fun j hj => HA.out j hj (by omega)⟩)
      go_wp2
      go_ret
      exact ⟨_, rfl, H.out, hB⟩
end Go.Proofs.YtcfihoniocamaaaGreatDoor
namespace Go.Proofs.YtcfihoniocamaaaGreatDoor
open Go.RowKit Go.Sort Go.Shelf
set_option linter.unusedVariables false

def Small (f : Fld) : Prop := f.1.length ≤ 4611686018427387903 ∧ f.2.length ≤ 4611686018427387903

theorem containsFld (fn : Nat) (lb : Array Value) (p : Fld → Bool) (eg : ∀ args w, (callFunc fn args).run Tryz.prog w = .ok (.enter fn args) w) (v : Value) (L : List Fld) (W : World) (hr : ReadsF W v L)
    (hcl : ∀ f, f ∈ L → ∀ W', Below W.heap.size W W' → Calls Tryz.prog fn (#[fv f] ++ lb) W' fun e w' => e = .returned (.bool (p f)) ∧ Below W'.heap.size W' w') :
    Calls Tryz.prog 62 #[v, .func (.func fn) #[] lb] W fun e w' => e = .returned (.bool (L.any p)) ∧ Below W.heap.size W w' := by
  have HI := Lib.hid (idxFld fn lb p eg v L W hr hcl)
  clear hr hcl
  go_enter Tryz.func62, Tryz.ntmps62
  go_wp2_with fail
  refine HI.out.mono ?_
  rintro e w' ⟨r, rfl, hr, hb⟩
  have HR := Lib.hid hr.any
  clear hr
  go_wp2
  all_goals
    go_ret
    exact ⟨by rw [← HR.out]; simp <;> omega, hb⟩

theorem right1 (f : Fld) (hf : Small f) (w : World) : Calls Tryz.prog 63 #[fv f] w fun e w' => e = .returned (.bool (!mayL f)) ∧ Below w.heap.size w w' := by
  obtain ⟨n, v⟩ := f
  have C := Lib.hid (fun W => tableMay n v hf.1 hf.2 W)
  obtain ⟨b, hb⟩ : ∃ b, mayL (n, v) = b := ⟨_, rfl⟩
  rw [hb] at C ⊢
  unfold fv at C ⊢
  simp only at C ⊢
  clear hb hf
  go_enter Tryz.func63, Tryz.ntmps63
  go_wp2_with (go_at_call 64; refine (C.out _).mono ?_; rintro e w1 ⟨rfl, hb⟩; have hbw := Below.trans (show Below w.heap.size w _ by (repeat (first | (with_reducible exact Below.refl _ _) | (with_reducible assumption) | (with_reducible refine Below.drew ?_) | (focus ((with_reducible refine Below.setCell ?_ ?_ _); rotate_left; (first | omega | (simp <;> omega)))) | (focus ((with_reducible refine Below.alloc ?_ ?_ _); rotate_left; (first | omega | (simp <;> omega)))) | exact Below.refl _ _ | assumption | refine Below.drew ?_ | refine Below.alloc ?_ (by first | omega | (simp <;> omega)) _ | refine Below.setCell ?_ (by first | omega | (simp <;> omega)) _))) (hb.mono (by (first | omega | (simp <;> omega)))))
  go_ret
  exact ⟨rfl, hbw⟩

theorem not_any (L : List Fld) : (L.any fun f => !mayL f) = !L.all mayL := by
  induction L with
  | nil => rfl
  | cons f L ih => rw [List.any_cons, List.all_cons, ih]; cases mayL f <;> simp

set_option maxHeartbeats 800000 in
theorem tableRight (v : Value) (L : List Fld) (W : World) (hr : ReadsF W v L) (hs : ∀ f ∈ L, Small f) :
    Calls Tryz.prog 32 #[v] W fun e w' => e = .returned (.bool (rightL L)) ∧ Below W.heap.size W w' := by
  have C := Lib.hid (containsFld 63 #[] (fun f => !mayL f) (enters_of Tryz.func63 (by kernel_rfl) rfl) v L W hr (fun f hf W' _ => right1 f (hs f hf) W'))
  rw [not_any] at C
  obtain ⟨ao, cap, rfl, hc1, hc2, hc3, _⟩ := hr
  have hm : maxLen = 9223372036854775807 := rfl
  rw [hm] at hc2
  unfold rightL
  obtain ⟨a, ha⟩ : ∃ a, L.all mayL = a := ⟨_, rfl⟩
  rw [ha] at C ⊢
  clear hs ha hm hc3
  by_cases h : L.length ≤ 40
  · have e : decide (L.length ≤ 40) = true := by simp [h]
    rw [e]
    clear e
    go_enter Tryz.func32, Tryz.ntmps32
    go_wp2_with (go_at_call 62; refine C.out.mono ?_; rintro e w1 ⟨rfl, hb⟩)
    go_ret
    exact ⟨by simp, hb⟩
  · have e : decide (L.length ≤ 40) = false := by simp; omega
    rw [e]
    clear e
    go_enter Tryz.func32, Tryz.ntmps32
    go_wp2
    go_ret
    exact ⟨by simp, Below.refl _ _⟩

set_option maxHeartbeats 1600000 in
theorem refRight (v : Value) (L : List Fld) (W : World) (hr : ReadsF W v L) (hs : ∀ f ∈ L, Small f) :
    Calls Tryz.prog 11 #[v] W fun e w' => e = .returned (.bool (rightL L)) ∧ Below W.heap.size W w' := by
  obtain ⟨ao, cap, rfl, hc1, hc2, hc3, hcell⟩ := hr
  have hm : maxLen = 9223372036854775807 := rfl
  rw [hm] at hc2
  have HC := Lib.hid hcell
  have HS := Lib.hid hs
  clear hm hcell hs hc3
  go_enter Tryz.func11, Tryz.ntmps11
  go_wp2
  go_loopw [7] (fun iv wr => ∃ i : Nat, iv = .int .i64 i ∧ i ≤ L.length ∧ (L.take i).all mayL = true ∧ Below W.heap.size W wr) (fun iv _ => L.length - (intOf iv).toNat)
  case atStart => exact ⟨0, rfl, Nat.zero_le _, rfl, by (repeat (first | (with_reducible exact Below.refl _ _) | (with_reducible assumption) | (with_reducible refine Below.drew ?_) | (focus ((with_reducible refine Below.setCell ?_ ?_ _); rotate_left; (first | omega | (simp <;> omega)))) | (focus ((with_reducible refine Below.alloc ?_ ?_ _); rotate_left; (first | omega | (simp <;> omega)))) | exact Below.refl _ _ | assumption | refine Below.drew ?_ | refine Below.alloc ?_ (by first | omega | (simp <;> omega)) _ | refine Below.setCell ?_ (by first | omega | (simp <;> omega)) _))⟩
  case round =>
    obtain ⟨i, rfl, hi, hall, hB⟩ := hrel
    have HA := Lib.hid hall
    have hz := hB.size
    clear hall
    by_cases hlt : i < L.length
    · obtain ⟨b, off, rfl, hb, hcl⟩ := HC.out (by omega)
      obtain ⟨e1, e2⟩ := hcl i hlt
      rw [← hB.cell (p := ⟨b, off + i * 2, none⟩) hb] at e1
      rw [← hB.cell (p := ⟨b, off + i * 2 + 1, none⟩) hb] at e2
      have hsm := HS.out _ (List.getElem_mem hlt)
      have htk : (L.take (i + 1)).all mayL = mayL L[i] := by
        rw [List.take_succ_eq_append_getElem hlt, List.all_append, HA.out]; simp
      have hno : mayL L[i] = false → rightL L = false := fun h => by
        unfold rightL
        rw [List.all_eq_false.2 ⟨_, List.getElem_mem hlt, by simp [h]⟩, Bool.and_false]
      obtain ⟨⟨n, x⟩, hf⟩ : ∃ f, L[i] = f := ⟨_, rfl⟩
      rw [hf] at e1 e2 hsm htk hno
      have C := Lib.hid (fun W => refMay n x hsm.1 hsm.2 W)
      unfold fv at C
      obtain ⟨y, hy⟩ : ∃ y, mayL (n, x) = y := ⟨_, rfl⟩
      rw [hy] at C htk hno
      have HT := Lib.hid htk
      have HN := Lib.hid hno
      simp only at e1 e2 C
      clear hcl hf hy htk hno hsm
      cases y with
      | true =>
        go_wp2_with (go_at_call 31; refine (C.out _).mono ?_; rintro e w1 ⟨rfl, hb1⟩; have hbw := Below.trans (show Below W.heap.size W _ by (repeat (first | (with_reducible exact Below.refl _ _) | (with_reducible assumption) | (with_reducible refine Below.drew ?_) | (focus ((with_reducible refine Below.setCell ?_ ?_ _); rotate_left; (first | omega | (simp <;> omega)))) | (focus ((with_reducible refine Below.alloc ?_ ?_ _); rotate_left; (first | omega | (simp <;> omega)))) | exact Below.refl _ _ | assumption | refine Below.drew ?_ | refine Below.alloc ?_ (by first | omega | (simp <;> omega)) _ | refine Below.setCell ?_ (by first | omega | (simp <;> omega)) _))) (hb1.mono (by (first | omega | (simp <;> omega)))))
        go_roundw
        case rel => exact ⟨i + 1, by go_num, by omega, HT.out, hbw⟩
        case measure => simp [intOf]; omega
      | false =>
        go_wp2_with (go_at_call 31; refine (C.out _).mono ?_; rintro e w1 ⟨rfl, hb1⟩; have hbw := Below.trans (show Below W.heap.size W _ by (repeat (first | (with_reducible exact Below.refl _ _) | (with_reducible assumption) | (with_reducible refine Below.drew ?_) | (focus ((with_reducible refine Below.setCell ?_ ?_ _); rotate_left; (first | omega | (simp <;> omega)))) | (focus ((with_reducible refine Below.alloc ?_ ?_ _); rotate_left; (first | omega | (simp <;> omega)))) | exact Below.refl _ _ | assumption | refine Below.drew ?_ | refine Below.alloc ?_ (by first | omega | (simp <;> omega)) _ | refine Below.setCell ?_ (by first | omega | (simp <;> omega)) _))) (hb1.mono (by (first | omega | (simp <;> omega)))))
        go_ret
        exact ⟨by rw [HN.out trivial]; rfl, hbw⟩
    · obtain rfl : i = L.length := by omega
      have h := HA.out
      rw [List.take_length] at h
      have H := Lib.hid (show rightL L = decide ((L.length : Int) ≤ 40) by unfold rightL; rw [h, Bool.and_true]; simp; omega)
      clear h
      go_wp2
      go_ret
      exact ⟨by rw [H.out]; rfl, hB⟩

set_option maxHeartbeats 1600000 in
theorem refLike (v1 v2 : Value) (L1 L2 : List Fld) (W : World) (h1 : ReadsF W v1 L1) (h2 : ReadsF W v2 L2) : Calls Tryz.prog 12 #[v1, v2] W fun e w' => e = .returned (.bool (L1 == L2)) ∧ Below W.heap.size W w' := by
  obtain ⟨ao, cap, rfl, hc1, hc2, _, hr1⟩ := h1
  obtain ⟨bo, cap', rfl, hd1, hd2, _, hr2⟩ := h2
  have hm : maxLen = 9223372036854775807 := rfl
  rw [hm] at hc2 hd2
  clear hm
  by_cases hlen : L1.length = L2.length
  · have HR1 := Lib.hid hr1
    have HR2 := Lib.hid hr2
    clear hr1 hr2
    obtain ⟨n, hn⟩ : ∃ n, L2.length = n := ⟨_, rfl⟩
    rw [hn] at hlen hd1 ⊢
    have HN2 := Lib.hid hn
    have HN1 := Lib.hid hlen
    rw [hlen] at hc1 ⊢
    clear hn hlen
    go_enter Tryz.func12, Tryz.ntmps12
    go_wp2
    go_loopw [13] (fun iv wr => ∃ i : Nat, iv = .int .i64 i ∧ i ≤ n ∧ (∀ j (h : j < L1.length) (h' : j < L2.length), j < i → L1[j] = L2[j]) ∧ Below W.heap.size W wr) (fun iv _ => n - (intOf iv).toNat)
    case atStart => exact ⟨0, rfl, Nat.zero_le _, fun j _ _ h => by omega, by (repeat (first | (with_reducible exact Below.refl _ _) | (with_reducible assumption) | (with_reducible refine Below.drew ?_) | (focus ((with_reducible refine Below.setCell ?_ ?_ _); rotate_left; (first | omega | (simp <;> omega)))) | (focus ((with_reducible refine Below.alloc ?_ ?_ _); rotate_left; (first | omega | (simp <;> omega)))) | exact Below.refl _ _ | assumption | refine Below.drew ?_ | refine Below.alloc ?_ (by first | omega | (simp <;> omega)) _ | refine Below.setCell ?_ (by first | omega | (simp <;> omega)) _))⟩
    case round =>
      obtain ⟨i, rfl, hi, hall, hB⟩ := hrel
      have HA := Lib.hid hall
      clear hall
      by_cases hlt : i < n
      · have hl1 : i < L1.length := by rw [HN1.out]; exact hlt
        have hl2 : i < L2.length := by rw [HN2.out]; exact hlt
        obtain ⟨b1, o1, rfl, hb1, hcell1⟩ := HR1.out (by omega)
        obtain ⟨b2, o2, rfl, hb2, hcell2⟩ := HR2.out (by omega)
        obtain ⟨e1, e1'⟩ := hcell1 i hl1
        obtain ⟨e2, e2'⟩ := hcell2 i hl2
        rw [← hB.cell (p := ⟨b1, o1 + i * 2, none⟩) hb1] at e1
        rw [← hB.cell (p := ⟨b1, o1 + i * 2 + 1, none⟩) hb1] at e1'
        rw [← hB.cell (p := ⟨b2, o2 + i * 2, none⟩) hb2] at e2
        rw [← hB.cell (p := ⟨b2, o2 + i * 2 + 1, none⟩) hb2] at e2'
        have HX := Lib.hid (show ∀ x y, L1[i] = x → L2[i] = y → (x = y → (∀ j (h : j < L1.length) (h' : j < L2.length), j < i + 1 → L1[j] = L2[j])) ∧ (x ≠ y → (L1 == L2) = false) from fun x y hx hy => by
          refine ⟨fun hxy j h h' hj => ?_, fun hxy => ?_⟩
          · by_cases e : j = i
            · subst e; rw [hx, hy, hxy]
            · exact HA.out j h h' (by omega)
          · rw [beq_eq_false_iff_ne]
            intro e
            subst e
            exact hxy (hx.symm.trans hy))
        obtain ⟨⟨x1, x2⟩, hx⟩ : ∃ x, L1[i] = x := ⟨_, rfl⟩
        obtain ⟨⟨y1, y2⟩, hy⟩ : ∃ y, L2[i] = y := ⟨_, rfl⟩
        obtain ⟨f1, f2⟩ := HX.out _ _ hx hy
        rw [hx] at e1 e1'
        rw [hy] at e2 e2'
        have F1 := Lib.hid f1
        have F2 := Lib.hid f2
        simp only at e1 e1' e2 e2'
        clear hcell1 hcell2 f1 f2 hx hy HX
        by_cases hxy : x1 = y1 ∧ x2 = y2
        · obtain ⟨rfl, rfl⟩ := hxy
          have F := Lib.hid (F1.out rfl)
          go_wp2_with fail
          go_region
          all_goals
            go_wp2
            go_roundw
            case rel => exact ⟨i + 1, by go_num, by omega, F.out, by (repeat (first | (with_reducible exact Below.refl _ _) | (with_reducible assumption) | (with_reducible refine Below.drew ?_) | (focus ((with_reducible refine Below.setCell ?_ ?_ _); rotate_left; (first | omega | (simp <;> omega)))) | (focus ((with_reducible refine Below.alloc ?_ ?_ _); rotate_left; (first | omega | (simp <;> omega)))) | exact Below.refl _ _ | assumption | refine Below.drew ?_ | refine Below.alloc ?_ (by first | omega | (simp <;> omega)) _ | refine Below.setCell ?_ (by first | omega | (simp <;> omega)) _))⟩
            case measure => simp [intOf]; omega
        · have F := Lib.hid (F2.out (fun e => hxy (by simpa using e)))
          have hne : (x1 == y1 && x2 == y2) = false := by
            apply Bool.eq_false_iff.2
            intro e
            simp at e
            exact hxy e
          clear hxy
          cases hq1 : (x1 == y1) with
          | false =>
            go_wp2_with fail
            go_region
            all_goals
              go_wp2
              go_ret
              exact ⟨by rw [F.out]; rfl, by (repeat (first | (with_reducible exact Below.refl _ _) | (with_reducible assumption) | (with_reducible refine Below.drew ?_) | (focus ((with_reducible refine Below.setCell ?_ ?_ _); rotate_left; (first | omega | (simp <;> omega)))) | (focus ((with_reducible refine Below.alloc ?_ ?_ _); rotate_left; (first | omega | (simp <;> omega)))) | exact Below.refl _ _ | assumption | refine Below.drew ?_ | refine Below.alloc ?_ (by first | omega | (simp <;> omega)) _ | refine Below.setCell ?_ (by first | omega | (simp <;> omega)) _))⟩
          | true =>
            have hq2 : (x2 == y2) = false := by rw [hq1] at hne; simpa using hne
            obtain rfl : x1 = y1 := by simpa using hq1
            go_wp2_with fail
            go_region
            all_goals
              go_wp2
              go_ret
              exact ⟨by rw [F.out]; rfl, by (repeat (first | (with_reducible exact Below.refl _ _) | (with_reducible assumption) | (with_reducible refine Below.drew ?_) | (focus ((with_reducible refine Below.setCell ?_ ?_ _); rotate_left; (first | omega | (simp <;> omega)))) | (focus ((with_reducible refine Below.alloc ?_ ?_ _); rotate_left; (first | omega | (simp <;> omega)))) | exact Below.refl _ _ | assumption | refine Below.drew ?_ | refine Below.alloc ?_ (by first | omega | (simp <;> omega)) _ | refine Below.setCell ?_ (by first | omega | (simp <;> omega)) _))⟩
      · obtain rfl : i = n := by omega
        have he : (L1 == L2) = true := by
          rw [beq_iff_eq]
          exact List.ext_getElem (by rw [HN1.out, HN2.out]) fun j h h' => HA.out j h h' (by rw [← HN1.out]; exact h)
        have HE := Lib.hid he
        clear he
        go_wp2
        go_ret
        exact ⟨by rw [HE.out]; rfl, by (repeat (first | (with_reducible exact Below.refl _ _) | (with_reducible assumption) | (with_reducible refine Below.drew ?_) | (focus ((with_reducible refine Below.setCell ?_ ?_ _); rotate_left; (first | omega | (simp <;> omega)))) | (focus ((with_reducible refine Below.alloc ?_ ?_ _); rotate_left; (first | omega | (simp <;> omega)))) | exact Below.refl _ _ | assumption | refine Below.drew ?_ | refine Below.alloc ?_ (by first | omega | (simp <;> omega)) _ | refine Below.setCell ?_ (by first | omega | (simp <;> omega)) _))⟩
  · have he : (L1 == L2) = false := by
      rw [beq_eq_false_iff_ne]
      intro e
      subst e
      exact hlen rfl
    have HE := Lib.hid he
    have hlen2 : ((L1.length : Int) == (L2.length : Int)) = false := by simp; omega
    clear he hr1 hr2
    go_enter Tryz.func12, Tryz.ntmps12
    go_wp2
    go_ret
    exact ⟨by rw [HE.out]; rfl, by (repeat (first | (with_reducible exact Below.refl _ _) | (with_reducible assumption) | (with_reducible refine Below.drew ?_) | (focus ((with_reducible refine Below.setCell ?_ ?_ _); rotate_left; (first | omega | (simp <;> omega)))) | (focus ((with_reducible refine Below.alloc ?_ ?_ _); rotate_left; (first | omega | (simp <;> omega)))) | exact Below.refl _ _ | assumption | refine Below.drew ?_ | refine Below.alloc ?_ (by first | omega | (simp <;> omega)) _ | refine Below.setCell ?_ (by first | omega | (simp <;> omega)) _))⟩
end Go.Proofs.YtcfihoniocamaaaGreatDoor
