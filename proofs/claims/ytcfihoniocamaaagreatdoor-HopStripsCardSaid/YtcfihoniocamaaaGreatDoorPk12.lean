/- What a function chooses of a row; a name taken out; all values of a name: the walks. All values of a name: the walk. -/
import Derived.Test.YtcfihoniocamaaaGreatDoorPk11
import Derived.Laws.EntriesVeiled
namespace Go.Proofs.YtcfihoniocamaaaGreatDoor
open Go.RowKit Go.Sort Go.Shelf
set_option linter.unusedVariables false

set_option maxHeartbeats 1600000 in
set_option maxRecDepth 100000 in
theorem keepFld (fn : Nat) (lb : Array Value) (p : Fld → Bool) (eg : ∀ args w, (callFunc fn args).run Tryz.prog w = .ok (.enter fn args) w) (v : Value) (L : List Fld) (W : World) (hr : ReadsF W v L) (hlen : L.length ≤ 1099511627776)
    (hcl : ∀ f, f ∈ L → ∀ W', Below W.heap.size W W' → Calls Tryz.prog fn (#[fv f] ++ lb) W' fun e w' => e = .returned (.bool (p f)) ∧ Below W'.heap.size W' w') :
    Calls Tryz.prog 65 #[v, .func (.func fn) #[] lb] W fun e w' => ∃ v', e = .returned v' ∧ OwnsF w' W.heap.size v' (L.filter p) ∧ Below W.heap.size W w' := by
  obtain ⟨ao, cap, rfl, hc1, hc2, hc3, hcell⟩ := hr
  have hm : maxLen = 9223372036854775807 := rfl
  rw [hm] at hc2
  have HC := Lib.hid hcell
  have HF := Lib.hid hcl
  clear hm hcell hcl hc3
  go_enter Tryz.func65, Tryz.ntmps65
  go_wp2
  go_loopw [5, 10] (fun ov iv wr => ∃ i : Nat, iv = .int .i64 i ∧ i ≤ L.length ∧ OwnsF wr W.heap.size ov ((L.take i).filter p) ∧ Below W.heap.size W wr) (fun _ iv _ => L.length - (intOf iv).toNat)
  case atStart => exact ⟨0, rfl, Nat.zero_le _, OwnsF.nil _ _, by (repeat (first | (with_reducible exact Below.refl _ _) | (with_reducible assumption) | (with_reducible refine Below.drew ?_) | (focus ((with_reducible refine Below.setCell ?_ ?_ _); rotate_left; (first | omega | (simp <;> omega)))) | (focus ((with_reducible refine Below.alloc ?_ ?_ _); rotate_left; (first | omega | (simp <;> omega)))) | exact Below.refl _ _ | assumption | refine Below.drew ?_ | refine Below.alloc ?_ (by first | omega | (simp <;> omega)) _ | refine Below.setCell ?_ (by first | omega | (simp <;> omega)) _))⟩
  case round =>
    obtain ⟨i, rfl, hi, hown, hB⟩ := hrel
    have HO := Lib.hid hown
    have hz := hB.size
    clear hown
    by_cases hlt : i < L.length
    · obtain ⟨b, off, rfl, hb, hcl⟩ := HC.out (by omega)
      obtain ⟨e1, e2⟩ := hcl i hlt
      rw [← hB.cell (p := ⟨b, off + i * 2, none⟩) hb] at e1
      rw [← hB.cell (p := ⟨b, off + i * 2 + 1, none⟩) hb] at e2
      have hcall := HF.out L[i] (List.getElem_mem hlt)
      have htk : (L.take (i + 1)).filter p = (L.take i).filter p ++ (if p L[i] = true then [L[i]] else []) := by
        rw [List.take_succ_eq_append_getElem hlt, List.filter_append]
        cases hp : p L[i] <;> simp [hp]
      have hfl : ((L.take i).filter p).length ≤ 1099511627776 := by
        have := List.length_filter_le p (L.take i)
        simp at this; omega
      obtain ⟨⟨n, x⟩, hf⟩ : ∃ f, L[i] = f := ⟨_, rfl⟩
      rw [hf] at e1 e2 hcall htk
      obtain ⟨y, hy⟩ : ∃ y, p (n, x) = y := ⟨_, rfl⟩
      rw [hy] at hcall htk
      have HCL := Lib.hid (show ∀ W', Below W.heap.size W W' → Calls Tryz.prog fn (#[.agg #[.string (S n), .string (S x)]] ++ lb) W' fun e w' => e = .returned (.bool y) ∧ Below W'.heap.size W' w' from hcall)
      have HT := Lib.hid htk
      simp only at e1 e2
      clear hcl hf hy hcall htk
      cases y with
      | true =>
        go_wp2_with (first
          | (go_at_fn fn; refine (HCL.out _ (by (repeat (first | (with_reducible exact Below.refl _ _) | (with_reducible assumption) | (with_reducible refine Below.drew ?_) | (focus ((with_reducible refine Below.setCell ?_ ?_ _); rotate_left; (first | omega | (simp <;> omega)))) | (focus ((with_reducible refine Below.alloc ?_ ?_ _); rotate_left; (first | omega | (simp <;> omega)))) | exact Below.refl _ _ | assumption | refine Below.drew ?_ | refine Below.alloc ?_ (by first | omega | (simp <;> omega)) _ | refine Below.setCell ?_ (by first | omega | (simp <;> omega)) _)))).mono ?_; rintro e w1 ⟨rfl, hb1⟩; obtain ⟨hcc, hff⟩ := bk hb1 wr.heap.size (by simp); have hbw := Below.trans (show Below wr.heap.size wr _ by (repeat (first | (with_reducible exact Below.refl _ _) | (with_reducible assumption) | (with_reducible refine Below.drew ?_) | (focus ((with_reducible refine Below.setCell ?_ ?_ _); rotate_left; (first | omega | (simp <;> omega)))) | (focus ((with_reducible refine Below.alloc ?_ ?_ _); rotate_left; (first | omega | (simp <;> omega)))) | exact Below.refl _ _ | assumption | refine Below.drew ?_ | refine Below.alloc ?_ (by first | omega | (simp <;> omega)) _ | refine Below.setCell ?_ (by first | omega | (simp <;> omega)) _))) (hb1.mono (by simp)); have hz1 := hb1.size; simp at hz1)
          | (at_builtin; refine wp_append_fld rfl _ _ rfl _ W.heap.size _ _ (n, x) (HO.out.below hbw) rfl _ rfl rfl (by omega) (by omega) ?_; intro v4 w4 hown4 hb4 _; have HO4 := Lib.hid hown4; have hbw4 := Below.trans (hB.trans (hbw.mono hz)) hb4; clear hown4))
        go_roundw
        case rel => exact ⟨i + 1, by go_num, by omega, by rw [HT.out]; exact HO4.out, hbw4⟩
        case measure => simp [intOf]; omega
      | false =>
        go_wp2_with (go_at_fn fn; refine (HCL.out _ (by (repeat (first | (with_reducible exact Below.refl _ _) | (with_reducible assumption) | (with_reducible refine Below.drew ?_) | (focus ((with_reducible refine Below.setCell ?_ ?_ _); rotate_left; (first | omega | (simp <;> omega)))) | (focus ((with_reducible refine Below.alloc ?_ ?_ _); rotate_left; (first | omega | (simp <;> omega)))) | exact Below.refl _ _ | assumption | refine Below.drew ?_ | refine Below.alloc ?_ (by first | omega | (simp <;> omega)) _ | refine Below.setCell ?_ (by first | omega | (simp <;> omega)) _)))).mono ?_; rintro e w1 ⟨rfl, hb1⟩; have hbw := Below.trans (show Below wr.heap.size wr _ by (repeat (first | (with_reducible exact Below.refl _ _) | (with_reducible assumption) | (with_reducible refine Below.drew ?_) | (focus ((with_reducible refine Below.setCell ?_ ?_ _); rotate_left; (first | omega | (simp <;> omega)))) | (focus ((with_reducible refine Below.alloc ?_ ?_ _); rotate_left; (first | omega | (simp <;> omega)))) | exact Below.refl _ _ | assumption | refine Below.drew ?_ | refine Below.alloc ?_ (by first | omega | (simp <;> omega)) _ | refine Below.setCell ?_ (by first | omega | (simp <;> omega)) _))) (hb1.mono (by simp)))
        go_roundw
        case rel => exact ⟨i + 1, by go_num, by omega, by rw [HT.out]; simpa using HO.out.below hbw, hB.trans (hbw.mono hz)⟩
        case measure => simp [intOf]; omega
    · obtain rfl : i = L.length := by omega
      have HO2 := Lib.hid (show OwnsF wr W.heap.size _ (L.filter p) from by have := HO.out; rw [List.take_length] at this; exact this)
      go_wp2
      go_ret
      exact ⟨_, rfl, HO2.out, hB⟩

set_option maxHeartbeats 800000 in
theorem remove1 (fn : Nat) (lb : Array Value) (b : Bool) (eg : ∀ args w, (callFunc fn args).run Tryz.prog w = .ok (.enter fn args) w) (f : Fld) (q : Nat) (W : World) (hq : q < W.heap.size) (hc : W.cell? ⟨q, 0, none⟩ = some (.func (.func fn) #[] lb))
    (hcl : ∀ W', Below W.heap.size W W' → Calls Tryz.prog fn (#[fv f] ++ lb) W' fun e w' => e = .returned (.bool b) ∧ Below W'.heap.size W' w') :
    Calls Tryz.prog 66 #[fv f, .pointer (some ⟨q, 0, none⟩)] W fun e w' => e = .returned (.bool (!b)) ∧ Below W.heap.size W w' := by
  obtain ⟨n, x⟩ := f
  have HCL := Lib.hid (show ∀ W', Below W.heap.size W W' → Calls Tryz.prog fn (#[.agg #[.string (S n), .string (S x)]] ++ lb) W' fun e w' => e = .returned (.bool b) ∧ Below W'.heap.size W' w' from hcl)
  unfold fv
  simp only
  have hfar := far hq
  clear hcl
  go_enter Tryz.func66, Tryz.ntmps66
  go_wp2_with (go_at_fn fn; refine (HCL.out _ (by (repeat (first | (with_reducible exact Below.refl _ _) | (with_reducible assumption) | (with_reducible refine Below.drew ?_) | (focus ((with_reducible refine Below.setCell ?_ ?_ _); rotate_left; (first | omega | (simp <;> omega)))) | (focus ((with_reducible refine Below.alloc ?_ ?_ _); rotate_left; (first | omega | (simp <;> omega)))) | exact Below.refl _ _ | assumption | refine Below.drew ?_ | refine Below.alloc ?_ (by first | omega | (simp <;> omega)) _ | refine Below.setCell ?_ (by first | omega | (simp <;> omega)) _)))).mono ?_; rintro e w1 ⟨rfl, hb⟩; have hbw := Below.trans (show Below W.heap.size W _ by (repeat (first | (with_reducible exact Below.refl _ _) | (with_reducible assumption) | (with_reducible refine Below.drew ?_) | (focus ((with_reducible refine Below.setCell ?_ ?_ _); rotate_left; (first | omega | (simp <;> omega)))) | (focus ((with_reducible refine Below.alloc ?_ ?_ _); rotate_left; (first | omega | (simp <;> omega)))) | exact Below.refl _ _ | assumption | refine Below.drew ?_ | refine Below.alloc ?_ (by first | omega | (simp <;> omega)) _ | refine Below.setCell ?_ (by first | omega | (simp <;> omega)) _))) (hb.mono (by (first | omega | (simp <;> omega)))))
  go_ret
  exact ⟨rfl, hbw⟩

set_option maxHeartbeats 1600000 in
set_option maxRecDepth 100000 in
theorem tableRemove (v : Value) (L : List Fld) (m : List UInt8) (hm : m.length ≤ 4611686018427387903) (w : World) (hr : ReadsF w v L) (hs : ∀ f ∈ L, Small f) (hlen : L.length ≤ 1099511627776) :
    Calls Tryz.prog 35 #[v, .string (S m)] w fun e w' => ∃ v', e = .returned v' ∧ OwnsF w' w.heap.size v' (removeL L m) ∧ Below w.heap.size w w' := by
  have HK := Lib.hid (show ∀ W g q, Below w.heap.size w W → W.cell? ⟨g, 0, none⟩ = some (.string (S m)) → g < W.heap.size → W.cell? ⟨q, 0, none⟩ = some (isNamed g) → q < W.heap.size →
      Calls Tryz.prog 65 #[v, .func (.func 66) #[] #[.pointer (some ⟨q, 0, none⟩)]] W fun e w' => ∃ v', e = .returned v' ∧ OwnsF w' W.heap.size v' (removeL L m) ∧ Below W.heap.size W w' from fun W g q hb hc hg hcq hq =>
    keepFld 66 #[.pointer (some ⟨q, 0, none⟩)] (fun f => !sameN f.1 m) (enters_of Tryz.func66 (by kernel_rfl) rfl) v L W (hr.below hb) hlen
      (fun f hf W' hb' => remove1 81 #[.pointer (some ⟨g, 0, none⟩)] (sameN f.1 m) (enters_of Tryz.func81 (by kernel_rfl) rfl) f q W' (Nat.lt_of_lt_of_le hq hb'.size) (by rw [hb'.cell (p := ⟨q, 0, none⟩) hq]; exact hcq)
        (fun W'' hb'' => named1 f (hs f hf) g m hm W'' (by rw [hb''.cell (p := ⟨g, 0, none⟩) (Nat.lt_of_lt_of_le hg hb'.size), hb'.cell (p := ⟨g, 0, none⟩) hg]; exact hc) (Nat.lt_of_lt_of_le hg (Nat.le_trans hb'.size hb''.size)))))
  have HN := Lib.hid (fun W => named m W)
  unfold isNamed at HK HN
  clear hr hs hm hlen
  go_enter Tryz.func35, Tryz.ntmps35
  go_wp2_with fail
  refine (HN.out _).mono ?_
  rintro e w1 ⟨rfl, hcell, hlt, hb1⟩
  have hfar := far hlt
  go_wp2_with fail
  refine Calls.mono (HK.out _ w.heap.size w1.heap.size ?_ ?_ ?_ ?_ ?_) ?_
  · (repeat (first | (with_reducible exact Below.refl _ _) | (with_reducible assumption) | (with_reducible refine Below.drew ?_) | (focus ((with_reducible refine Below.setCell ?_ ?_ _); rotate_left; (first | omega | (simp <;> omega)))) | (focus ((with_reducible refine Below.alloc ?_ ?_ _); rotate_left; (first | omega | (simp <;> omega)))) | exact Below.refl _ _ | assumption | refine Below.drew ?_ | refine Below.alloc ?_ (by first | omega | (simp <;> omega)) _ | refine Below.setCell ?_ (by first | omega | (simp <;> omega)) _))
  · simp [go_sem, *]
  · simp; omega
  · simp [go_sem, *]
  · simp
  rintro e w2 ⟨v', rfl, hown, hb2⟩
  have hbw := Below.trans (show Below w.heap.size w _ by (repeat (first | (with_reducible exact Below.refl _ _) | (with_reducible assumption) | (with_reducible refine Below.drew ?_) | (focus ((with_reducible refine Below.setCell ?_ ?_ _); rotate_left; (first | omega | (simp <;> omega)))) | (focus ((with_reducible refine Below.alloc ?_ ?_ _); rotate_left; (first | omega | (simp <;> omega)))) | exact Below.refl _ _ | assumption | refine Below.drew ?_ | refine Below.alloc ?_ (by first | omega | (simp <;> omega)) _ | refine Below.setCell ?_ (by first | omega | (simp <;> omega)) _))) (hb2.mono (by (first | omega | (simp <;> omega))))
  have HO := Lib.hid (hown.base (show w.heap.size ≤ _ by (first | omega | (simp <;> omega))))
  clear hown
  go_wp2
  go_ret
  exact ⟨_, rfl, HO.out, hbw⟩
end Go.Proofs.YtcfihoniocamaaaGreatDoor
namespace Go.Proofs.YtcfihoniocamaaaGreatDoor
open Go.RowKit Go.Sort Go.Shelf
set_option linter.unusedVariables false

set_option maxHeartbeats 1600000 in
set_option maxRecDepth 100000 in
theorem tableAll (v : Value) (L : List Fld) (m : List UInt8) (hm : m.length ≤ 4611686018427387903) (w : World) (hr : ReadsF w v L) (hs : ∀ f ∈ L, Small f) (hlen : L.length ≤ 1099511627776) :
    Calls Tryz.prog 58 #[v, .string (S m)] w fun e w' => ∃ v', e = .returned v' ∧ Owns w' w.heap.size v' ((namedL L m).map (·.2)) ∧ Below w.heap.size w w' := by
  have HK := Lib.hid (show ∀ W g, Below w.heap.size w W → W.cell? ⟨g, 0, none⟩ = some (.string (S m)) → g < W.heap.size →
      Calls Tryz.prog 65 #[v, isNamed g] W fun e w' => ∃ v', e = .returned v' ∧ OwnsF w' W.heap.size v' (namedL L m) ∧ Below W.heap.size W w' from fun W g hb hc hg =>
    keepFld 81 #[.pointer (some ⟨g, 0, none⟩)] (fun f => sameN f.1 m) (enters_of Tryz.func81 (by kernel_rfl) rfl) v L W (hr.below hb) hlen
      (fun f hf W' hb' => named1 f (hs f hf) g m hm W' (by rw [hb'.cell (p := ⟨g, 0, none⟩) hg]; exact hc) (Nat.lt_of_lt_of_le hg hb'.size)))
  have hnl : (namedL L m).length ≤ 1099511627776 := Nat.le_trans (List.length_filter_le _ _) hlen
  obtain ⟨K, hK⟩ : ∃ K, namedL L m = K := ⟨_, rfl⟩
  rw [hK] at HK hnl ⊢
  have HN := Lib.hid (fun W => named m W)
  clear hr hs hm hlen hK
  go_enter Tryz.func58, Tryz.ntmps58
  go_wp2_with fail
  refine (HN.out _).mono ?_
  rintro e w1 ⟨rfl, hcell, hlt, hb1⟩
  go_wp2_with fail
  refine (HK.out w1 w.heap.size hb1 hcell hlt).mono ?_
  rintro e w2 ⟨v', rfl, hown, hb2⟩
  have hbw := hb1.trans (hb2.mono hb1.size)
  have HBW := Lib.hid hbw
  have hz := hbw.size
  obtain ⟨ao, cap, rfl, hc1, hc2, hc3, hcl⟩ := hown.reads
  have hm : maxLen = 9223372036854775807 := rfl
  rw [hm] at hc2
  have HC := Lib.hid hcl
  clear hown hcl hm hc3 hbw hb1 hb2 hcell
  go_wp2
  go_loopw [5, 13] (fun ov iv wr => ∃ i : Nat, iv = .int .i64 i ∧ i ≤ K.length ∧ Owns wr w2.heap.size ov ((K.take i).map (·.2)) ∧ Below w2.heap.size w2 wr) (fun _ iv _ => K.length - (intOf iv).toNat)
  case atStart => exact ⟨0, rfl, Nat.zero_le _, Owns.nil _ _, by (repeat (first | (with_reducible exact Below.refl _ _) | (with_reducible assumption) | (with_reducible refine Below.drew ?_) | (focus ((with_reducible refine Below.setCell ?_ ?_ _); rotate_left; (first | omega | (simp <;> omega)))) | (focus ((with_reducible refine Below.alloc ?_ ?_ _); rotate_left; (first | omega | (simp <;> omega)))) | exact Below.refl _ _ | assumption | refine Below.drew ?_ | refine Below.alloc ?_ (by first | omega | (simp <;> omega)) _ | refine Below.setCell ?_ (by first | omega | (simp <;> omega)) _))⟩
  case round =>
    obtain ⟨i, rfl, hi, hown, hB⟩ := hrel
    have HO := Lib.hid hown
    have hzr := hB.size
    clear hown
    by_cases hlt : i < K.length
    · obtain ⟨b, off, rfl, hb, hcl⟩ := HC.out (by omega)
      obtain ⟨e1, e2⟩ := hcl i hlt
      rw [← hB.cell (p := ⟨b, off + i * 2, none⟩) hb] at e1
      rw [← hB.cell (p := ⟨b, off + i * 2 + 1, none⟩) hb] at e2
      have HT := Lib.hid (show (K.take (i + 1)).map (·.2) = (K.take i).map (·.2) ++ [K[i].2] from by rw [List.take_succ_eq_append_getElem hlt, List.map_append]; rfl)
      obtain ⟨⟨n, x⟩, hf⟩ : ∃ f, K[i] = f := ⟨_, rfl⟩
      rw [hf] at e1 e2 HT
      simp only at e1 e2 HT
      clear hcl hf
      go_wp2_with (at_builtin; refine wp_append_text' rfl _ _ rfl _ w2.heap.size _ _ x (Owns.below HO.out (by (repeat (first | (with_reducible exact Below.refl _ _) | (with_reducible assumption) | (with_reducible refine Below.drew ?_) | (focus ((with_reducible refine Below.setCell ?_ ?_ _); rotate_left; (first | omega | (simp <;> omega)))) | (focus ((with_reducible refine Below.alloc ?_ ?_ _); rotate_left; (first | omega | (simp <;> omega)))) | exact Below.refl _ _ | assumption | refine Below.drew ?_ | refine Below.alloc ?_ (by first | omega | (simp <;> omega)) _ | refine Below.setCell ?_ (by first | omega | (simp <;> omega)) _)))) rfl _ rfl (by simp) (by (first | omega | (simp <;> omega))) (by (first | omega | (simp <;> omega))) ?_; intro v4 w4 hown4 hb4; have HO4 := Lib.hid hown4; have hbw4 := Below.trans (show Below w2.heap.size w2 _ by (repeat (first | (with_reducible exact Below.refl _ _) | (with_reducible assumption) | (with_reducible refine Below.drew ?_) | (focus ((with_reducible refine Below.setCell ?_ ?_ _); rotate_left; (first | omega | (simp <;> omega)))) | (focus ((with_reducible refine Below.alloc ?_ ?_ _); rotate_left; (first | omega | (simp <;> omega)))) | exact Below.refl _ _ | assumption | refine Below.drew ?_ | refine Below.alloc ?_ (by first | omega | (simp <;> omega)) _ | refine Below.setCell ?_ (by first | omega | (simp <;> omega)) _))) hb4; clear hown4)
      go_roundw
      case rel => exact ⟨i + 1, by go_num, by omega, by rw [HT.out]; exact HO4.out, hbw4⟩
      case measure => simp [intOf]; omega
    · obtain rfl : i = K.length := by omega
      have h := HO.out
      rw [List.take_length] at h
      have HO2 := Lib.hid h
      clear h
      go_wp2
      go_ret
      refine ⟨_, rfl, ?_, HBW.out.trans (hB.mono hz)⟩
      obtain ⟨h1, h2⟩ := HO2.out
      refine ⟨h1, ?_⟩
      rcases h2 with h2 | ⟨g, cap, cur, h3, h4, h5⟩
      · exact .inl h2
      · exact .inr ⟨g, cap, cur, h3, Nat.le_trans hz h4, h5⟩
end Go.Proofs.YtcfihoniocamaaaGreatDoor
