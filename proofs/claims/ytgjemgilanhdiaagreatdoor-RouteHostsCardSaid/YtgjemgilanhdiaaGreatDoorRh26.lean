/- Where a row of routes has one of some kind: slices.IndexFunc at routes; a row's copy: slices.Clone. -/
import Derived.Test.YtgjemgilanhdiaaGreatDoorRh25
namespace Go.Proofs.YtgjemgilanhdiaaGreatDoor
open Go.RowKit Go.Sort Go.Shelf
set_option linter.unusedVariables false
set_option linter.unusedSimpArgs false

/-- The value of a route. -/
abbrev rtv (f : Wrd) : Value := .agg #[.string (S f.1), .string (S f.2.1), .string (S f.2.2)]
/-- Where the first one is. -/
def IdxR (p : Wrd → Bool) (L : List Wrd) (r : Int) : Prop :=
  (r = -1 ∧ ∀ j (h : j < L.length), p L[j] = false) ∨ ∃ i : Nat, r = i ∧ ∃ h : i < L.length, p L[i] = true ∧ ∀ j (h : j < L.length), j < i → p L[j] = false

set_option maxHeartbeats 1600000 in
theorem idxRt (fn : Nat) (lb : Array Value) (p : Wrd → Bool) (eg : ∀ args w, (callFunc fn args).run Tryz.prog w = .ok (.enter fn args) w) (v : Value) (L : List Wrd) (W : World) (hr : ReadsW W v L)
    (hcl : ∀ f, f ∈ L → ∀ W', Below W.heap.size W W' → Calls Tryz.prog fn (#[rtv f] ++ lb) W' fun e w' => e = .returned (.bool (p f)) ∧ Below W'.heap.size W' w') :
    Calls Tryz.prog 29 #[v, .func (.func fn) #[] lb] W fun e w' => ∃ r, e = .returned (.int .i64 r) ∧ IdxR p L r ∧ Below W.heap.size W w' := by
  obtain ⟨ao, cap, rfl, hc1, hc2, hc3, hcell⟩ := hr
  have hm : maxLen = 9223372036854775807 := rfl
  rw [hm] at hc2
  have HC := Lib.hid hcell
  have HF := Lib.hid hcl
  clear hm hcell hcl hc3
  go_enter Tryz.func29, Tryz.ntmps29
  go_wp2
  go_loopw [8] (fun iv wr => ∃ i : Nat, iv = .int .i64 i ∧ i ≤ L.length ∧ (∀ j (h : j < L.length), j < i → p L[j] = false) ∧ Below W.heap.size W wr) (fun iv _ => L.length - (intOf iv).toNat)
  case atStart => exact ⟨0, rfl, Nat.zero_le _, fun j _ h => by omega, by (repeat (first | (with_reducible exact Below.refl _ _) | (with_reducible assumption) | (with_reducible refine Below.drew ?_) | (focus ((with_reducible refine Below.setCell ?_ ?_ _); rotate_left; (first | omega | (simp <;> omega)))) | (focus ((with_reducible refine Below.alloc ?_ ?_ _); rotate_left; (first | omega | (simp <;> omega)))) | exact Below.refl _ _ | assumption | refine Below.drew ?_ | refine Below.alloc ?_ (by first | omega | (simp <;> omega)) _ | refine Below.setCell ?_ (by first | omega | (simp <;> omega)) _))⟩
  case round =>
    obtain ⟨i, rfl, hi, hall, hB⟩ := hrel
    have HA := Lib.hid hall
    have hz := hB.size
    clear hall
    by_cases hlt : i < L.length
    · obtain ⟨b, off, rfl, hb, hcl⟩ := HC.out (by omega)
      obtain ⟨e1, e2, e3⟩ := hcl i hlt
      rw [← hB.cell (p := ⟨b, off + i * 3, none⟩) hb] at e1
      rw [← hB.cell (p := ⟨b, off + i * 3 + 1, none⟩) hb] at e2
      rw [← hB.cell (p := ⟨b, off + i * 3 + 2, none⟩) hb] at e3
      have hcall := HF.out L[i] (List.getElem_mem hlt) wr hB
      have HYES := Lib.hid (show p L[i] = true → IdxR p L i from fun h => .inr ⟨i, rfl, hlt, h, HA.out⟩)
      have HNO := Lib.hid (show p L[i] = false → ∀ j (h : j < L.length), j < i + 1 → p L[j] = false from fun h j hj hji => by
        by_cases e : j = i
        · subst e; exact h
        · exact HA.out j hj (by omega))
      obtain ⟨⟨n, x, z⟩, hf⟩ : ∃ f, L[i] = f := ⟨_, rfl⟩
      rw [hf] at e1 e2 e3 hcall HYES HNO
      obtain ⟨y, hy⟩ : ∃ y, p (n, x, z) = y := ⟨_, rfl⟩
      rw [hy] at hcall HYES HNO
      have hcall : Calls Tryz.prog fn (#[.agg #[.string (S n), .string (S x), .string (S z)]] ++ lb) wr fun e w' => e = .returned (.bool y) ∧ Below wr.heap.size wr w' := hcall
      simp only at e1 e2 e3
      clear hcl hf hy
      cases y with
      | true =>
        go_wp2_with (go_at_fn fn; refine hcall.mono ?_; rintro e w' ⟨rfl, hb1⟩)
        go_ret
        exact ⟨_, rfl, HYES.out trivial, hB.trans (hb1.mono hz)⟩
      | false =>
        go_wp2_with (go_at_fn fn; refine hcall.mono ?_; rintro e w' ⟨rfl, hb1⟩)
        go_roundw
        case rel => exact ⟨i + 1, by go_num, by omega, HNO.out trivial, hB.trans (hb1.mono hz)⟩
        case measure => simp [intOf]; omega
    · have H := Lib.hid (show IdxR p L (-1) from .inl ⟨rfl, fun j hj => HA.out j hj (by omega)⟩)
      go_wp2
      go_ret
      exact ⟨_, rfl, H.out, hB⟩

set_option maxHeartbeats 1600000 in
/-- slices.Clone at routes: nil stays nil; else a row of the call's own. -/
theorem cloneRt (v : Value) (L : List Wrd) (w : World) (hr : ReadsW w v L) (hlen : L.length ≤ 1099511627776) :
    Calls Tryz.prog 14 #[v] w fun e w' => ∃ v', e = .returned v' ∧ OwnsW w' w.heap.size v' L ∧ Below w.heap.size w w' := by
  have HR := Lib.hid hr
  obtain ⟨ao, cap, rfl, hc1, hc2, hc3, hcell⟩ := hr
  cases ao with
  | none =>
    have := hc3 rfl
    subst this
    have h0 : L.length = 0 := by omega
    obtain rfl : L = [] := List.length_eq_zero_iff.1 h0
    have hnil : ∀ W, (binOp .eql 22 (.slice none 0 0) (.slice none 0 0)).run Tryz.prog W = .ok (.bool true) W := fun W => Lib.run_eql_slice_nil W _ _ none 0 0 0 0 Tryz.underlying22
    clear hc1 hc2 hc3 hcell h0
    go_enter Tryz.func14, Tryz.ntmps14
    go_wp2
    go_ret
    exact ⟨_, rfl, OwnsW.nil _ _, by (repeat (first | (with_reducible exact Below.refl _ _) | (with_reducible assumption) | (with_reducible refine Below.drew ?_) | (focus ((with_reducible refine Below.setCell ?_ ?_ _); rotate_left; (first | omega | (simp <;> omega)))) | (focus ((with_reducible refine Below.alloc ?_ ?_ _); rotate_left; (first | omega | (simp <;> omega)))) | exact Below.refl _ _ | assumption | refine Below.drew ?_ | refine Below.alloc ?_ (by first | omega | (simp <;> omega)) _ | refine Below.setCell ?_ (by first | omega | (simp <;> omega)) _))⟩
  | some ad =>
    have hnil : ∀ W, (binOp .eql 22 (.slice (some ad) L.length cap) (.slice none 0 0)).run Tryz.prog W = .ok (.bool false) W := fun W => Lib.run_eql_slice_nil W _ _ (some ad) L.length cap 0 0 Tryz.underlying22
    clear hc1 hc2 hc3 hcell
    go_enter Tryz.func14, Tryz.ntmps14
    go_wp2_with (at_builtin; refine wp_append_wrow rfl _ _ rfl _ w.heap.size _ [] (OwnsW.made w w.heap.size (Nat.le_refl _)) rfl (some ad) cap L (HR.out.below (by (repeat (first | (with_reducible exact Below.refl _ _) | (with_reducible assumption) | (with_reducible refine Below.drew ?_) | (focus ((with_reducible refine Below.setCell ?_ ?_ _); rotate_left; (first | omega | (simp <;> omega)))) | (focus ((with_reducible refine Below.alloc ?_ ?_ _); rotate_left; (first | omega | (simp <;> omega)))) | exact Below.refl _ _ | assumption | refine Below.drew ?_ | refine Below.alloc ?_ (by first | omega | (simp <;> omega)) _ | refine Below.setCell ?_ (by first | omega | (simp <;> omega)) _)))) rfl (by simp; omega) (by simp) ?_; intro v' w1 hown hb; have HO := Lib.hid hown; have hbw := Below.trans (show Below w.heap.size w _ by (repeat (first | (with_reducible exact Below.refl _ _) | (with_reducible assumption) | (with_reducible refine Below.drew ?_) | (focus ((with_reducible refine Below.setCell ?_ ?_ _); rotate_left; (first | omega | (simp <;> omega)))) | (focus ((with_reducible refine Below.alloc ?_ ?_ _); rotate_left; (first | omega | (simp <;> omega)))) | exact Below.refl _ _ | assumption | refine Below.drew ?_ | refine Below.alloc ?_ (by first | omega | (simp <;> omega)) _ | refine Below.setCell ?_ (by first | omega | (simp <;> omega)) _))) hb; clear hown)
    go_ret
    exact ⟨_, rfl, by simpa using HO.out, hbw⟩
end Go.Proofs.YtgjemgilanhdiaaGreatDoor
