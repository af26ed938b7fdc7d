/- The document's Add, Set, All, Joined: the walks. -/
import Derived.Test.YtbdfidilmaefhaaDoorTableSet
import Derived.Test.YtbdfidilmaefhaaDoorTableJoin
import Derived.Test.YtbdfidilmaefhaaDoorSetMath
namespace Go.Proofs.YtbdfidilmaefhaaDoor
open Go.RowKit Go.Sort Go.Shelf
set_option linter.unusedVariables false

set_option maxHeartbeats 3200000 in
set_option maxRecDepth 100000 in
theorem refAdd (v : Value) (L : List Fld) (n x : List UInt8) (w : World) (hr : ReadsF w v L) (hs : ∀ f ∈ L, Small f) (hf : Small (n, x)) (hlen : L.length ≤ 1000) :
    Calls Tryd.prog 16 #[v, fv (n, x)] w fun e w' => AddTo w L (n, x) e w' := by
  have C1 := Lib.hid (fun W (hb : Below w.heap.size w W) => refRight v L W (hr.below hb) hs)
  have C2 := Lib.hid (fun W => refMay n x hf.1 hf.2 W)
  have HR := Lib.hid hr
  obtain ⟨ao, cap, rfl, hc1, hc2, _, _⟩ := hr
  have hm : maxLen = 9223372036854775807 := rfl
  rw [hm] at hc2
  have HA := Lib.hid (show addE L (n, x) = (if rightL L = true ∧ mayL (n, x) = true then (if L.length < 40 then 0 else 4) else 1) from rfl)
  have HL := Lib.hid (show addL L (n, x) = if addE L (n, x) = 0 then L ++ [(n, x)] else [] from rfl)
  have h40 : rightL L = true → L.length ≤ 40 := fun h => by unfold rightL at h; simp at h; exact h.1
  unfold fv at C2 ⊢
  simp only at C2 ⊢
  obtain ⟨a, ha⟩ : ∃ a, rightL L = a := ⟨_, rfl⟩
  obtain ⟨b, hb⟩ : ∃ b, mayL (n, x) = b := ⟨_, rfl⟩
  rw [ha] at C1 HA h40
  rw [hb] at C2 HA
  clear hm hs hf ha hb
  have h0 := Below.refl w.heap.size w
  cases a with
  | false =>
    have e1 : addE L (n, x) = 1 := by rw [HA.out]; simp
    have e2 : addL L (n, x) = [] := by rw [HL.out, e1]; rfl
    have E1 := Lib.hid e1
    have E2 := Lib.hid e2
    clear e1 e2 h40
    go_enter Tryd.func16, Tryd.ntmps16
    go_wp2_with (go_at_call 22; refine Calls.mono (C1.out _ (by (repeat (first | exact Below.refl _ _ | assumption | refine Below.drew ?_ | refine Below.alloc ?_ (by first | omega | (simp <;> omega)) _ | refine Below.setCell ?_ (by first | omega | (simp <;> omega)) _)))) ?_; rintro e w1 ⟨rfl, hb⟩; have hbw := Below.trans (show Below w.heap.size w _ by (repeat (first | exact Below.refl _ _ | assumption | refine Below.drew ?_ | refine Below.alloc ?_ (by first | omega | (simp <;> omega)) _ | refine Below.setCell ?_ (by first | omega | (simp <;> omega)) _))) (hb.mono (by (first | omega | (simp <;> omega)))))
    go_ret2
    exact ⟨_, by rw [E2.out]; exact OwnsF.nil _ _, by rw [E1.out]; rfl, hbw⟩
  | true =>
    have h40' := h40 rfl
    clear h40
    cases b with
    | false =>
      have e1 : addE L (n, x) = 1 := by rw [HA.out]; simp
      have e2 : addL L (n, x) = [] := by rw [HL.out, e1]; rfl
      have E1 := Lib.hid e1
      have E2 := Lib.hid e2
      clear e1 e2
      go_enter Tryd.func16, Tryd.ntmps16
      go_wp2_with (first
        | (go_at_call 22; refine Calls.mono (C1.out _ (by (repeat (first | exact Below.refl _ _ | assumption | refine Below.drew ?_ | refine Below.alloc ?_ (by first | omega | (simp <;> omega)) _ | refine Below.setCell ?_ (by first | omega | (simp <;> omega)) _)))) ?_; rintro e w1 ⟨rfl, hb⟩; have hbw := Below.trans (show Below w.heap.size w _ by (repeat (first | exact Below.refl _ _ | assumption | refine Below.drew ?_ | refine Below.alloc ?_ (by first | omega | (simp <;> omega)) _ | refine Below.setCell ?_ (by first | omega | (simp <;> omega)) _))) (hb.mono (by (first | omega | (simp <;> omega)))); obtain ⟨hcc, hff⟩ := bk hb w.heap.size (by simp); have hz := hb.size; simp at hz)
        | (go_at_call 9; refine (C2.out _).mono ?_; rintro e w2 ⟨rfl, hb2⟩; have hbw2 := hbw.trans (hb2.mono (by (first | omega | (simp <;> omega))))))
      go_ret2
      exact ⟨_, by rw [E2.out]; exact OwnsF.nil _ _, by rw [E1.out]; rfl, hbw2⟩
    | true =>
      by_cases hl : L.length < 40
      · have e1 : addE L (n, x) = 0 := by rw [HA.out]; simp [hl]
        have e2 : addL L (n, x) = L ++ [(n, x)] := by rw [HL.out, e1]; rfl
        have E1 := Lib.hid e1
        have E2 := Lib.hid e2
        have hne : ((L.length : Int) == 40) = false := by simp; omega
        clear e1 e2
        go_enter Tryd.func16, Tryd.ntmps16
        go_wp2_with (first
          | (go_at_call 22; refine Calls.mono (C1.out _ (by (repeat (first | exact Below.refl _ _ | assumption | refine Below.drew ?_ | refine Below.alloc ?_ (by first | omega | (simp <;> omega)) _ | refine Below.setCell ?_ (by first | omega | (simp <;> omega)) _)))) ?_; rintro e w1 ⟨rfl, hb⟩; have hbw := Below.trans (show Below w.heap.size w _ by (repeat (first | exact Below.refl _ _ | assumption | refine Below.drew ?_ | refine Below.alloc ?_ (by first | omega | (simp <;> omega)) _ | refine Below.setCell ?_ (by first | omega | (simp <;> omega)) _))) (hb.mono (by (first | omega | (simp <;> omega)))); obtain ⟨hcc, hff⟩ := bk hb w.heap.size (by simp); have hcc0 := hcc 0; have hcc1 := hcc 1; simp [go_sem] at hcc0 hcc1; have hz := hb.size; simp at hz; clear hcc hff)
          | (go_at_call 9; refine (C2.out _).mono ?_; rintro e w2 ⟨rfl, hb2⟩; have hbw2 := hbw.trans (hb2.mono (by (first | omega | (simp <;> omega)))); have hcd0 := (hb2.cell (p := ⟨w.heap.size, 0, none⟩) (show w.heap.size < _ by omega)).trans hcc0; have hcd1 := (hb2.cell (p := ⟨w.heap.size, 1, none⟩) (show w.heap.size < _ by omega)).trans hcc1; have hz2 := hb2.size)
          | (at_builtin; refine wp_append_row rfl _ _ rfl _ w2.heap.size _ [] (OwnsF.made w2 w2.heap.size (Nat.le_refl _)) rfl ao cap L (HR.out.below (by (repeat (first | exact Below.refl _ _ | assumption | refine Below.drew ?_ | refine Below.alloc ?_ (by first | omega | (simp <;> omega)) _ | refine Below.setCell ?_ (by first | omega | (simp <;> omega)) _)))) rfl (by simp; omega) (by simp) ?_; intro v' w3 hown hb3; have HO := Lib.hid hown; have hbw3 := Below.trans (show Below w2.heap.size w2 _ by (repeat (first | exact Below.refl _ _ | assumption | refine Below.drew ?_ | refine Below.alloc ?_ (by first | omega | (simp <;> omega)) _ | refine Below.setCell ?_ (by first | omega | (simp <;> omega)) _))) hb3; have hce0 := (hbw3.cell (p := ⟨w.heap.size, 0, none⟩) (show w.heap.size < _ by omega)).trans hcd0; have hce1 := (hbw3.cell (p := ⟨w.heap.size, 1, none⟩) (show w.heap.size < _ by omega)).trans hcd1; have hz3 := hbw3.size; clear hown)
          | (at_builtin; refine wp_append_fld rfl _ _ rfl _ w2.heap.size _ _ (n, x) HO.out rfl _ rfl rfl (by simp; omega) (by omega) ?_; intro v4 w4 hown4 hb4 _; have HO4 := Lib.hid hown4; have hbw4 := Below.trans hbw3 hb4; clear hown4))
        go_ret2
        exact ⟨_, by rw [E2.out]; simpa using HO4.out.base hbw2.size, by rw [E1.out]; rfl, hbw2.trans (hbw4.mono hbw2.size)⟩
      · have e1 : addE L (n, x) = 4 := by rw [HA.out]; simp [hl]
        have e2 : addL L (n, x) = [] := by rw [HL.out, e1]; rfl
        have E1 := Lib.hid e1
        have E2 := Lib.hid e2
        have hne : ((L.length : Int) == 40) = true := by simp; omega
        clear e1 e2
        go_enter Tryd.func16, Tryd.ntmps16
        go_wp2_with (first
          | (go_at_call 22; refine Calls.mono (C1.out _ (by (repeat (first | exact Below.refl _ _ | assumption | refine Below.drew ?_ | refine Below.alloc ?_ (by first | omega | (simp <;> omega)) _ | refine Below.setCell ?_ (by first | omega | (simp <;> omega)) _)))) ?_; rintro e w1 ⟨rfl, hb⟩; have hbw := Below.trans (show Below w.heap.size w _ by (repeat (first | exact Below.refl _ _ | assumption | refine Below.drew ?_ | refine Below.alloc ?_ (by first | omega | (simp <;> omega)) _ | refine Below.setCell ?_ (by first | omega | (simp <;> omega)) _))) (hb.mono (by (first | omega | (simp <;> omega)))); obtain ⟨hcc, hff⟩ := bk hb w.heap.size (by simp); have hz := hb.size; simp at hz)
          | (go_at_call 9; refine (C2.out _).mono ?_; rintro e w2 ⟨rfl, hb2⟩; have hbw2 := hbw.trans (hb2.mono (by (first | omega | (simp <;> omega))))))
        go_ret2
        exact ⟨_, by rw [E2.out]; exact OwnsF.nil _ _, by rw [E1.out]; rfl, hbw2⟩
end Go.Proofs.YtbdfidilmaefhaaDoor
