/- What a function chooses of a row; a name taken out; all values of a name: the walks. -/
import Derived.Test.YtcfihoniocamaaaDoorTableGet
import Derived.Laws.EntriesVeiled
namespace Go.Proofs.YtcfihoniocamaaaDoor
open Go.RowKit Go.Sort Go.Shelf
set_option linter.unusedVariables false

set_option maxHeartbeats 1600000 in
set_option maxRecDepth 100000 in
theorem keepFld (fn : Nat) (lb : Array Value) (p : Fld → Bool) (eg : ∀ args w, (callFunc fn args).run Tryd.prog w = .ok (.enter fn args) w) (v : Value) (L : List Fld) (W : World) (hr : ReadsF W v L) (hlen : L.length ≤ 1099511627776)
    (hcl : ∀ f, f ∈ L → ∀ W', Below W.heap.size W W' → Calls Tryd.prog fn (#[fv f] ++ lb) W' fun e w' => e = .returned (.bool (p f)) ∧ Below W'.heap.size W' w') :
    Calls Tryd.prog 75 #[v, .func (.func fn) #[] lb] W fun e w' => ∃ v', e = .returned v' ∧ OwnsF w' W.heap.size v' (L.filter p) ∧ Below W.heap.size W w' := by
  obtain ⟨ao, cap, rfl, hc1, hc2, hc3, hcell⟩ := hr
  have hm : maxLen = 9223372036854775807 := rfl
  rw [hm] at hc2
  have HC := Lib.hid hcell
  have HF := Lib.hid hcl
  clear hm hcell hcl hc3
  go_enter Tryd.func75, Tryd.ntmps75
  go_wp2
  go_loopw [5, 10] (fun ov iv wr => ∃ i : Nat, iv = .int .i64 i ∧ i ≤ L.length ∧ OwnsF wr W.heap.size ov ((L.take i).filter p) ∧ Below W.heap.size W wr) (fun _ iv _ => L.length - (intOf iv).toNat)
  case atStart => exact ⟨0, rfl, Nat.zero_le _, OwnsF.nil _ _, by (repeat (first | (with_reducible exact Below.refl _ _) | (with_reducible assumption) | (with_reducible refine Below.drew ?_) | (focus ((with_reducible refine Below.setCell ?_ ?_ _); rotate_left; (first | omega | (simp <;> omega)))) | (focus ((with_reducible refine Below.alloc ?_ ?_ _); rotate_left; (first | omega | (simp <;> omega)))) | exact Below.refl _ _ | assumption | refine Below.drew ?_ | refine Below.alloc ?_ (by first | omega | (simp <;> omega)) _ | refine Below.setCell ?_ (by first | omega | (simp <;> omega)) _))⟩
  case round =>
    obtain ⟨i, rfl, hi, hown, hB⟩ := hrel
    have HO := Lib.hid hown
    have hz := hB.size
    clear hown
    by_cases hlt : i < L.length
    · obtain ⟨b, off, rfl, hb, hcl⟩ := HC.out (by omega)
      obtain ⟨e1, e2⟩ := hcl i hlt
      rw [← hB.cell (p := ⟨b, off + i * 2, none⟩) hb] at e1
      rw [← hB.cell (p := ⟨b, off + i * 2 + 1, none⟩) hb] at e2
      have hcall := HF.out L[i] (List.getElem_mem hlt)
      have htk : (L.take (i + 1)).filter p = (L.take i).filter p ++ (if p L[i] = true then [L[i]] else []) := by
        rw [List.take_succ_eq_append_getElem hlt, List.filter_append]
        cases hp : p L[i] <;> simp [hp]
      have hfl : ((L.take i).filter p).length ≤ 1099511627776 := by
        have := List.length_filter_le p (L.take i)
        simp at this; omega
      obtain ⟨⟨n, x⟩, hf⟩ : ∃ f, L[i] = f := ⟨_, rfl⟩
      rw [hf] at e1 e2 hcall htk
      obtain ⟨y, hy⟩ : ∃ y, p (n, x) = y := ⟨_, rfl⟩
      rw [hy] at hcall htk
      have HCL := Lib.hid (show ∀ W', Below W.heap.size W W' → Calls Tryd.prog fn (#[.agg #[.string (S n), .string (S x)]] ++ lb) W' fun e w' => e = .returned (.bool y) ∧ Below W'.heap.size W' w' from hcall)
      have HT := Lib.hid htk
      simp only at e1 e2
      clear hcl hf hy hcall htk
      cases y with
      | true =>
        go_wp2_with (first
          | (go_at_fn fn; refine (HCL.out _ (by (repeat (first | (with_reducible exact Below.refl _ _) | (with_reducible assumption) | (with_reducible refine Below.drew ?_) | (focus ((with_reducible refine Below.setCell ?_ ?_ _); rotate_left; (first | omega | (simp <;> omega)))) | (focus ((with_reducible refine Below.alloc ?_ ?_ _); rotate_left; (first | omega | (simp <;> omega)))) | exact Below.refl _ _ | assumption | refine Below.drew ?_ | refine Below.alloc ?_ (by first | omega | (simp <;> omega)) _ | refine Below.setCell ?_ (by first | omega | (simp <;> omega)) _)))).mono ?_; rintro e w1 ⟨rfl, hb1⟩; obtain ⟨hcc, hff⟩ := bk hb1 wr.heap.size (by simp); have hbw := Below.trans (show Below wr.heap.size wr _ by (repeat (first | (with_reducible exact Below.refl _ _) | (with_reducible assumption) | (with_reducible refine Below.drew ?_) | (focus ((with_reducible refine Below.setCell ?_ ?_ _); rotate_left; (first | omega | (simp <;> omega)))) | (focus ((with_reducible refine Below.alloc ?_ ?_ _); rotate_left; (first | omega | (simp <;> omega)))) | exact Below.refl _ _ | assumption | refine Below.drew ?_ | refine Below.alloc ?_ (by first | omega | (simp <;> omega)) _ | refine Below.setCell ?_ (by first | omega | (simp <;> omega)) _))) (hb1.mono (by simp)); have hz1 := hb1.size; simp at hz1)
          | (at_builtin; refine wp_append_fld rfl _ _ rfl _ W.heap.size _ _ (n, x) (HO.out.below hbw) rfl _ rfl rfl (by omega) (by omega) ?_; intro v4 w4 hown4 hb4 _; have HO4 := Lib.hid hown4; have hbw4 := Below.trans (hB.trans (hbw.mono hz)) hb4; clear hown4))
        go_roundw
        case rel => exact ⟨i + 1, by go_num, by omega, by rw [HT.out]; exact HO4.out, hbw4⟩
        case measure => simp [intOf]; omega
      | false =>
        go_wp2_with (go_at_fn fn; refine (HCL.out _ (by (repeat (first | (with_reducible exact Below.refl _ _) | (with_reducible assumption) | (with_reducible refine Below.drew ?_) | (focus ((with_reducible refine Below.setCell ?_ ?_ _); rotate_left; (first | omega | (simp <;> omega)))) | (focus ((with_reducible refine Below.alloc ?_ ?_ _); rotate_left; (first | omega | (simp <;> omega)))) | exact Below.refl _ _ | assumption | refine Below.drew ?_ | refine Below.alloc ?_ (by first | omega | (simp <;> omega)) _ | refine Below.setCell ?_ (by first | omega | (simp <;> omega)) _)))).mono ?_; rintro e w1 ⟨rfl, hb1⟩; have hbw := Below.trans (show Below wr.heap.size wr _ by (repeat (first | (with_reducible exact Below.refl _ _) | (with_reducible assumption) | (with_reducible refine Below.drew ?_) | (focus ((with_reducible refine Below.setCell ?_ ?_ _); rotate_left; (first | omega | (simp <;> omega)))) | (focus ((with_reducible refine Below.alloc ?_ ?_ _); rotate_left; (first | omega | (simp <;> omega)))) | exact Below.refl _ _ | assumption | refine Below.drew ?_ | refine Below.alloc ?_ (by first | omega | (simp <;> omega)) _ | refine Below.setCell ?_ (by first | omega | (simp <;> omega)) _))) (hb1.mono (by simp)))
        go_roundw
        case rel => exact ⟨i + 1, by go_num, by omega, by rw [HT.out]; simpa using HO.out.below hbw, hB.trans (hbw.mono hz)⟩
        case measure => simp [intOf]; omega
    · obtain rfl : i = L.length := by omega
      have HO2 := Lib.hid (show OwnsF wr W.heap.size _ (L.filter p) from by have := HO.out; rw [List.take_length] at this; exact this)
      go_wp2
      go_ret
      exact ⟨_, rfl, HO2.out, hB⟩

end Go.Proofs.YtcfihoniocamaaaDoor
