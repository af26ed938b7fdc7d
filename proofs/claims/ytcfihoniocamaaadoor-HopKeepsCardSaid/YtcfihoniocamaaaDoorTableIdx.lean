/- Where a row of fields has one of some kind: slices.IndexFunc, ContainsFunc at fields; which rows may be; two rows compared: the walks. -/
import Derived.Test.YtcfihoniocamaaaDoorTableRef
namespace Go.Proofs.YtcfihoniocamaaaDoor
open Go.RowKit Go.Sort Go.Shelf
set_option linter.unusedVariables false

/-- Where the first one is. -/
def IdxIs (p : Fld → Bool) (L : List Fld) (r : Int) : Prop :=
  (r = -1 ∧ ∀ j (h : j < L.length), p L[j] = false) ∨ ∃ i : Nat, r = i ∧ ∃ h : i < L.length, p L[i] = true ∧ ∀ j (h : j < L.length), j < i → p L[j] = false
theorem IdxIs.any {p : Fld → Bool} {L : List Fld} {r : Int} (h : IdxIs p L r) : decide (0 ≤ r) = L.any p := by
  rcases h with ⟨rfl, h⟩ | ⟨i, rfl, hi, h1, _⟩
  · symm
    simp only [Int.reduceNeg, Int.reduceLE, decide_false]
    rw [List.any_eq_false]
    intro f hf
    obtain ⟨j, hj, rfl⟩ := List.getElem_of_mem hf
    simp [h j hj]
  · rw [List.any_eq_true.2 ⟨_, List.getElem_mem hi, h1⟩]
    simp

set_option maxHeartbeats 1600000 in
theorem idxFld (fn : Nat) (lb : Array Value) (p : Fld → Bool) (eg : ∀ args w, (callFunc fn args).run Tryd.prog w = .ok (.enter fn args) w) (v : Value) (L : List Fld) (W : World) (hr : ReadsF W v L)
    (hcl : ∀ f, f ∈ L → ∀ W', Below W.heap.size W W' → Calls Tryd.prog fn (#[fv f] ++ lb) W' fun e w' => e = .returned (.bool (p f)) ∧ Below W'.heap.size W' w') :
    Calls Tryd.prog 61 #[v, .func (.func fn) #[] lb] W fun e w' => ∃ r, e = .returned (.int .i64 r) ∧ IdxIs p L r ∧ Below W.heap.size W w' := by
  obtain ⟨ao, cap, rfl, hc1, hc2, hc3, hcell⟩ := hr
  have hm : maxLen = 9223372036854775807 := rfl
  rw [hm] at hc2
  have HC := Lib.hid hcell
  have HF := Lib.hid hcl
  clear hm hcell hcl hc3
  go_enter Tryd.func61, Tryd.ntmps61
  go_wp2
  go_loopw [8] (fun iv wr => ∃ i : Nat, iv = .int .i64 i ∧ i ≤ L.length ∧ (∀ j (h : j < L.length), j < i → p L[j] = false) ∧ Below W.heap.size W wr) (fun iv _ => L.length - (intOf iv).toNat)
  case atStart => exact ⟨0, rfl, Nat.zero_le _, fun j _ h => by omega, by (repeat (first | (with_reducible exact Below.refl _ _) | (with_reducible assumption) | (with_reducible refine Below.drew ?_) | (focus ((with_reducible refine Below.setCell ?_ ?_ _); rotate_left; (first | omega | (simp <;> omega)))) | (focus ((with_reducible refine Below.alloc ?_ ?_ _); rotate_left; (first | omega | (simp <;> omega)))) | exact Below.refl _ _ | assumption | refine Below.drew ?_ | refine Below.alloc ?_ (by first | omega | (simp <;> omega)) _ | refine Below.setCell ?_ (by first | omega | (simp <;> omega)) _))⟩
  case round =>
    obtain ⟨i, rfl, hi, hall, hB⟩ := hrel
    have HA := Lib.hid hall
    have hz := hB.size
    clear hall
    by_cases hlt : i < L.length
    · obtain ⟨b, off, rfl, hb, hcl⟩ := HC.out (by omega)
      obtain ⟨e1, e2⟩ := hcl i hlt
      rw [← hB.cell (p := ⟨b, off + i * 2, none⟩) hb] at e1
      rw [← hB.cell (p := ⟨b, off + i * 2 + 1, none⟩) hb] at e2
      have hcall := HF.out L[i] (List.getElem_mem hlt) wr hB
      have HYES := Lib.hid (show p L[i] = true → IdxIs p L i from fun h => .inr ⟨i, rfl, hlt, h, HA.out⟩)
      have HNO := Lib.hid (show p L[i] = false → ∀ j (h : j < L.length), j < i + 1 → p L[j] = false from fun h j hj hji => by
        by_cases e : j = i
        · subst e; exact h
        · exact HA.out j hj (by omega))
      obtain ⟨⟨n, x⟩, hf⟩ : ∃ f, L[i] = f := ⟨_, rfl⟩
      rw [hf] at e1 e2 hcall HYES HNO
      obtain ⟨y, hy⟩ : ∃ y, p (n, x) = y := ⟨_, rfl⟩
      rw [hy] at hcall HYES HNO
      have hcall : Calls Tryd.prog fn (#[.agg #[.string (S n), .string (S x)]] ++ lb) wr fun e w' => e = .returned (.bool y) ∧ Below wr.heap.size wr w' := hcall
      simp only at e1 e2
      clear hcl hf hy
      cases y with
      | true =>
        go_wp2_with (go_at_fn fn; refine hcall.mono ?_; rintro e w' ⟨rfl, hb1⟩)
        go_ret
        exact ⟨_, rfl, HYES.out trivial, hB.trans (hb1.mono hz)⟩
      | false =>
        go_wp2_with (go_at_fn fn; refine hcall.mono ?_; rintro e w' ⟨rfl, hb1⟩)
        go_roundw
        case rel => exact ⟨i + 1, by go_num, by omega, HNO.out trivial, hB.trans (hb1.mono hz)⟩
        case measure => simp [intOf]; omega
    · have H := Lib.hid (show IdxIs p L (-1) from .inl ⟨rfl, fun j hj => HA.out j hj (by omega)⟩)
      go_wp2
      go_ret
      exact ⟨_, rfl, H.out, hB⟩
end Go.Proofs.YtcfihoniocamaaaDoor
