/- Which names are for the next one alone: the document's walks; the law's known row. -/
import Derived.Test.YtcfihoniocamaaaDoorRefHop
namespace Go.Proofs.YtcfihoniocamaaaDoor
open Go.RowKit Go.Sort Go.Shelf
set_option linter.unusedVariables false

set_option maxHeartbeats 800000 in
theorem refHas (u : Value) (L : List (List UInt8)) (s : List UInt8) (W : World) (hr : Reads W u L) :
    Calls Tryd.prog 31 #[u, .string (S s)] W fun e w' => e = .returned (.bool (decide (s ∈ L))) ∧ w' = W := by
  obtain ⟨ao, cap, rfl, hc1, hc2, hcell⟩ := hr
  have hmx : maxLen = 9223372036854775807 := rfl
  rw [hmx] at hc2
  have HC := Lib.hid hcell
  have HY := Lib.hid (fun (h : s ∈ L) => (show decide (s ∈ L) = true from decide_eq_true h))
  have HN := Lib.hid (fun (h : ∀ j (hj : j < L.length), L[j] ≠ s) => (show decide (s ∈ L) = false from decide_eq_false (fun hm => by
    obtain ⟨j, hj, e⟩ := List.getElem_of_mem hm
    exact h j hj e)))
  have HM := Lib.hid (fun (j : Nat) (hj : j < L.length) => List.getElem_mem hj)
  obtain ⟨r, hr⟩ : ∃ r, decide (s ∈ L) = r := ⟨_, rfl⟩
  rw [hr] at HY HN ⊢
  clear hcell hmx hr
  go_enter Tryd.func31, Tryd.ntmps31
  go_wp2
  go_loop [9] (fun iv => ∃ i : Nat, iv = .int .i64 i ∧ i ≤ L.length ∧ (∀ j (hj : j < L.length), j < i → L[j] ≠ s)) (fun iv => L.length - (intOf iv).toNat)
  case atStart => exact ⟨0, rfl, Nat.zero_le _, fun j _ h => by omega⟩
  case round =>
    obtain ⟨i, rfl, hi, hall⟩ := hrel
    have HA := Lib.hid hall
    clear hall
    by_cases hlt : i < L.length
    · obtain ⟨b, off, rfl, hb, hcl⟩ := HC.out (by omega)
      have e1 := hcl i hlt
      have hmem := HM.out i hlt
      have HAN := Lib.hid (show L[i] ≠ s → ∀ j (hj : j < L.length), j < i + 1 → L[j] ≠ s from fun h j hj hji => by
        by_cases e : j = i
        · subst e; exact h
        · exact HA.out j hj (by omega))
      obtain ⟨x, hx⟩ : ∃ x, L[i] = x := ⟨_, rfl⟩
      rw [hx] at e1 hmem HAN
      clear hcl hx
      by_cases hxs : x = s
      · subst hxs
        have hr := HY.out hmem
        subst hr
        clear hmem
        go_wp2
        go_ret
        exact ⟨rfl, rfl⟩
      · have hb2 : (x == s) = false := by simpa using hxs
        have HAA := Lib.hid (HAN.out hxs)
        clear hmem hxs
        go_wp2
        go_round
        case rel => exact ⟨i + 1, by go_num, by omega, HAA.out⟩
        case measure => simp [intOf]; omega
    · obtain rfl : i = L.length := by omega
      have hr := HN.out (fun j hj => HA.out j hj hj)
      subst hr
      go_wp2
      go_ret
      exact ⟨rfl, rfl⟩
theorem fixed_reads (W : World) {W' : World} (hb : Below (W.heap.size + 1) (W.alloc (.cells #[.string (S [99, 111, 110, 110, 101, 99, 116, 105, 111, 110]), .string (S [107, 101, 101, 112, 45, 97, 108, 105, 118, 101]), .string (S [112, 114, 111, 120, 121, 45, 99, 111, 110, 110, 101, 99, 116, 105, 111, 110]), .string (S [116, 101]), .string (S [116, 114, 97, 105, 108, 101, 114]), .string (S [116, 114, 97, 110, 115, 102, 101, 114, 45, 101, 110, 99, 111, 100, 105, 110, 103]), .string (S [117, 112, 103, 114, 97, 100, 101]), .string (S [99, 111, 110, 116, 101, 110, 116, 45, 108, 101, 110, 103, 116, 104])] 9)) W') : Reads W' (.slice (some ⟨W.heap.size, 0, none⟩) 8 8) fixed8 :=
  ⟨_, 8, rfl, Nat.le_refl _, by decide, fun _ => ⟨W.heap.size, 0, rfl, by have := hb.size; simp at this; omega, fun j hj => by
    rw [hb.cell (p := ⟨W.heap.size, 0 + j, none⟩) (Nat.lt_succ_self _), Nat.zero_add]
    exact fixed_cells W j hj⟩⟩

set_option maxHeartbeats 800000 in
set_option maxRecDepth 100000 in
theorem refAlone (u : Value) (L : List (List UInt8)) (n : List UInt8) (hn : n.length ≤ 1000000) (w : World) (hr : Reads w u L) :
    Calls Tryd.prog 12 #[u, .string (S n)] w fun e w' => e = .returned (.bool (aloneB L n)) ∧ Below w.heap.size w w' := by
  have LO := Lib.hid (fun W => refLower n (by omega) W)
  unfold aloneB
  obtain ⟨ln, hln⟩ : ∃ q, lower n = q := ⟨_, rfl⟩
  rw [hln] at LO ⊢
  have H1 := Lib.hid (fun u2 W (h : Reads W u2 fixed8) => refHas u2 fixed8 ln W h)
  have H2 := Lib.hid (fun W (hb : Below w.heap.size w W) => refHas u L ln W (hr.below hb))
  obtain ⟨a, ha⟩ : ∃ q, decide (ln ∈ fixed8) = q := ⟨_, rfl⟩
  obtain ⟨b, hb⟩ : ∃ q, decide (ln ∈ L) = q := ⟨_, rfl⟩
  rw [ha] at H1 ⊢
  rw [hb] at H2 ⊢
  obtain ⟨ao, cap, rfl, _⟩ := hr
  have FR := Lib.hid (fun W => fixed_reads W (W' := _) (Below.refl _ _))
  clear hln ha hb
  cases a with
  | true =>
    go_enter Tryd.func12, Tryd.ntmps12
    go_wp2_with (first
      | (go_at_call 24; refine Calls.mono (LO.out _) ?_; rintro e w1 ⟨rfl, hb1⟩; have hz1 := hb1.size)
      | (go_at_call 31; refine Calls.mono (H1.out _ _ (FR.out w1)) ?_; rintro e w' ⟨rfl, hw'⟩; obtain rfl := hw'.symm)
      | fail)
    go_ret
    exact ⟨rfl, by (repeat (first | (with_reducible exact Below.refl _ _) | (with_reducible assumption) | (with_reducible refine Below.drew ?_) | (focus ((with_reducible refine Below.setCell ?_ ?_ _); rotate_left; (first | omega | (simp <;> omega)))) | (focus ((with_reducible refine Below.alloc ?_ ?_ _); rotate_left; (first | omega | (simp <;> omega)))) | exact Below.refl _ _ | assumption | refine Below.drew ?_ | refine Below.alloc ?_ (by first | omega | (simp <;> omega)) _ | refine Below.setCell ?_ (by first | omega | (simp <;> omega)) _))⟩
  | false =>
    go_enter Tryd.func12, Tryd.ntmps12
    go_wp2_with (first
      | (go_at_call 24; refine Calls.mono (LO.out _) ?_; rintro e w1 ⟨rfl, hb1⟩; have hz1 := hb1.size)
      | (go_at_call 31; refine Calls.mono (H1.out _ _ (FR.out w1)) ?_; rintro e w' ⟨rfl, hw'⟩; obtain rfl := hw'.symm)
      | (go_at_call 31; refine Calls.mono (H2.out _ (by (repeat (first | (with_reducible exact Below.refl _ _) | (with_reducible assumption) | (with_reducible refine Below.drew ?_) | (focus ((with_reducible refine Below.setCell ?_ ?_ _); rotate_left; (first | omega | (simp <;> omega)))) | (focus ((with_reducible refine Below.alloc ?_ ?_ _); rotate_left; (first | omega | (simp <;> omega)))) | exact Below.refl _ _ | assumption | refine Below.drew ?_ | refine Below.alloc ?_ (by first | omega | (simp <;> omega)) _ | refine Below.setCell ?_ (by first | omega | (simp <;> omega)) _)))) ?_; rintro e w' ⟨rfl, hw'⟩; obtain rfl := hw'.symm)
      | fail)
    go_ret
    exact ⟨by simp, by (repeat (first | (with_reducible exact Below.refl _ _) | (with_reducible assumption) | (with_reducible refine Below.drew ?_) | (focus ((with_reducible refine Below.setCell ?_ ?_ _); rotate_left; (first | omega | (simp <;> omega)))) | (focus ((with_reducible refine Below.alloc ?_ ?_ _); rotate_left; (first | omega | (simp <;> omega)))) | exact Below.refl _ _ | assumption | refine Below.drew ?_ | refine Below.alloc ?_ (by first | omega | (simp <;> omega)) _ | refine Below.setCell ?_ (by first | omega | (simp <;> omega)) _))⟩

theorem alive_strip : rightL [([67, 111, 110, 110, 101, 99, 116, 105, 111, 110], [120]), ([88], [49]), ([89], [50])] = true ∧ stripL [([67, 111, 110, 110, 101, 99, 116, 105, 111, 110], [120]), ([88], [49]), ([89], [50])] = [([89], [50])] := by decide +kernel
theorem alive_row (W : World) : ReadsF (W.alloc (.cells #[.string (S [67, 111, 110, 110, 101, 99, 116, 105, 111, 110]), .string (S [120]), .string (S [88]), .string (S [49]), .string (S [89]), .string (S [50])] 31)) (.slice (some ⟨W.heap.size, 0, none⟩) 3 3) [([67, 111, 110, 110, 101, 99, 116, 105, 111, 110], [120]), ([88], [49]), ([89], [50])] :=
  ⟨_, 3, rfl, Nat.le_refl _, by decide, (fun h => by cases h), fun _ => ⟨W.heap.size, 0, rfl, by simp, fun j hj => by
    have h3 : j < 3 := hj
    rw [World.cell?_alloc_new, World.cell?_alloc_new]
    match j, h3 with
    | 0, _ | 1, _ | 2, _ => exact ⟨rfl, rfl⟩⟩⟩

set_option maxHeartbeats 800000 in
set_option maxRecDepth 100000 in
theorem hop_alive (w : World) (hM : ∃ m, w.cell? ⟨0, 0, none⟩ = some (.int .i64 m)) : Calls Tryd.prog 10 #[] w fun e w' => e = .returned (.bool true) ∧ Below w.heap.size w w' := by
  have hb0 : Below w.heap.size w (w.alloc (.cells #[.string (S [67, 111, 110, 110, 101, 99, 116, 105, 111, 110]), .string (S [120]), .string (S [88]), .string (S [49]), .string (S [89]), .string (S [50])] 31)) := by (repeat (first | (with_reducible exact Below.refl _ _) | (with_reducible assumption) | (with_reducible refine Below.drew ?_) | (focus ((with_reducible refine Below.setCell ?_ ?_ _); rotate_left; (first | omega | (simp <;> omega)))) | (focus ((with_reducible refine Below.alloc ?_ ?_ _); rotate_left; (first | omega | (simp <;> omega)))) | exact Below.refl _ _ | assumption | refine Below.drew ?_ | refine Below.alloc ?_ (by first | omega | (simp <;> omega)) _ | refine Below.setCell ?_ (by first | omega | (simp <;> omega)) _))
  have C := hopStrip _ _ _ (alive_row w) ⟨by decide, by decide⟩ (by obtain ⟨m, hm⟩ := hM; exact ⟨m, (hb0.cell (p := ⟨0, 0, none⟩) (block_lt_of_cell hm)).trans hm⟩)
  unfold stripE stripV at C
  rw [alive_strip.1, if_pos rfl, if_pos rfl, alive_strip.2] at C
  have C := Lib.hid C
  clear hM
  go_enter Tryd.func10, Tryd.ntmps10
  go_wp2_with fail
  refine Calls.mono C.out ?_
  rintro e w1 ⟨v, rfl, hown, hb1⟩
  have hB1 : Below w.heap.size w w1 := Below.trans hb0 (hb1.mono (by simp))
  obtain ⟨ao, cap, rfl, hc1, hc2, _, hcell⟩ := hown.reads
  have hm : maxLen = 9223372036854775807 := rfl
  rw [hm] at hc2
  obtain ⟨b, off, rfl, hb, hcl⟩ := hcell (by decide)
  obtain ⟨e1, e2⟩ := hcl 0 (by decide)
  simp only [List.getElem_cons_zero, Nat.zero_mul, Nat.add_zero, List.length_cons, List.length_nil, Nat.zero_add] at e1 e2 hc1 ⊢
  clear hcl hcell hown
  go_wp2
  go_ret
  exact ⟨ret_bool (by simp), hB1⟩
end Go.Proofs.YtcfihoniocamaaaDoor
