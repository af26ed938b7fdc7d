/- Two rows compared; the law's known text; the texts cut: the walks. -/
import Derived.Test.YtpapefegfghakaaDoorOwnRow
import Derived.Test.YtpapefegfghakaaDoorTextLow
namespace Go.Proofs.YtpapefegfghakaaDoor
open Go.RowKit Go.Sort Go.Shelf
set_option linter.unusedVariables false

/-- The slice v reads as these texts. -/
def Reads (W : World) (v : Value) (L : List (List UInt8)) : Prop :=
  ∃ ao cap, v = .slice ao L.length cap ∧ L.length ≤ cap ∧ cap ≤ maxLen ∧ (0 < L.length → ∃ b off, ao = some ⟨b, off, none⟩ ∧ b < W.heap.size ∧ ∀ j (h : j < L.length), W.cell? ⟨b, off + j, none⟩ = some (.string (S L[j])))
theorem Owns.reads {W : World} {B : Nat} {v : Value} {L : List (List UInt8)} (h : Owns W B v L) : Reads W v L := by
  obtain ⟨ao, cap, h1, h2, h3, h4, h5⟩ := h.shape
  refine ⟨ao, cap, h1, h2, h3, fun h0 => ?_⟩
  obtain ⟨g, cap', e1, e2, e3, e4, e5⟩ := h.at 0 h0
  rw [h1] at e1
  injection e1 with e6 e7 e8
  exact ⟨g, 0, e6, e4, fun j hj => by rw [Nat.zero_add]; exact e5 j hj⟩
theorem Reads.below {W W' : World} {v : Value} {L : List (List UInt8)} (h : Reads W v L) (hb : Below W.heap.size W W') : Reads W' v L := by
  obtain ⟨ao, cap, h1, h2, h3, h4⟩ := h
  refine ⟨ao, cap, h1, h2, h3, fun h0 => ?_⟩
  obtain ⟨b, off, e1, e2, e3⟩ := h4 h0
  exact ⟨b, off, e1, Nat.lt_of_lt_of_le e2 hb.size, fun j hj => by rw [hb.cell (p := ⟨b, off + j, none⟩) e2]; exact e3 j hj⟩

set_option maxHeartbeats 1600000 in
theorem refSame (v1 v2 : Value) (L1 L2 : List (List UInt8)) (W : World) (h1 : Reads W v1 L1) (h2 : Reads W v2 L2) : Calls Tryd.prog 18 #[v1, v2] W fun e w' => e = .returned (.bool (L1 == L2)) ∧ Below W.heap.size W w' := by
  obtain ⟨ao, cap, rfl, hc1, hc2, hr1⟩ := h1
  obtain ⟨bo, cap', rfl, hd1, hd2, hr2⟩ := h2
  have hm : maxLen = 9223372036854775807 := rfl
  rw [hm] at hc2 hd2
  clear hm
  by_cases hlen : L1.length = L2.length
  · have HR1 := Lib.hid hr1
    have HR2 := Lib.hid hr2
    clear hr1 hr2
    obtain ⟨n, hn⟩ : ∃ n, L2.length = n := ⟨_, rfl⟩
    rw [hn] at hlen hd1 ⊢
    have HN2 := Lib.hid hn
    have HN1 := Lib.hid hlen
    rw [hlen] at hc1 ⊢
    clear hn hlen
    go_enter Tryd.func18, Tryd.ntmps18
    go_wp2
    go_loopw [13] (fun iv wr => ∃ i : Nat, iv = .int .i64 i ∧ i ≤ n ∧ (∀ j (h : j < L1.length) (h' : j < L2.length), j < i → L1[j] = L2[j]) ∧ Below W.heap.size W wr) (fun iv _ => n - (intOf iv).toNat)
    case atStart => exact ⟨0, rfl, Nat.zero_le _, fun j _ _ h => by omega, by (repeat (first | (with_reducible exact Below.refl _ _) | (with_reducible assumption) | (with_reducible refine Below.drew ?_) | (focus ((with_reducible refine Below.setCell ?_ ?_ _); rotate_left; (first | omega | (simp <;> omega)))) | (focus ((with_reducible refine Below.alloc ?_ ?_ _); rotate_left; (first | omega | (simp <;> omega)))) | exact Below.refl _ _ | assumption | refine Below.drew ?_ | refine Below.alloc ?_ (by first | omega | (simp <;> omega)) _ | refine Below.setCell ?_ (by first | omega | (simp <;> omega)) _))⟩
    case round =>
      obtain ⟨i, rfl, hi, hall, hB⟩ := hrel
      have HA := Lib.hid hall
      clear hall
      by_cases hlt : i < n
      · have hl1 : i < L1.length := by rw [HN1.out]; exact hlt
        have hl2 : i < L2.length := by rw [HN2.out]; exact hlt
        obtain ⟨b1, o1, rfl, hb1, hcell1⟩ := HR1.out (by omega)
        obtain ⟨b2, o2, rfl, hb2, hcell2⟩ := HR2.out (by omega)
        have e1 := hcell1 i hl1
        have e2 := hcell2 i hl2
        rw [← hB.cell (p := ⟨b1, o1 + i, none⟩) hb1] at e1
        rw [← hB.cell (p := ⟨b2, o2 + i, none⟩) hb2] at e2
        have HX := Lib.hid (show ∀ x y, L1[i] = x → L2[i] = y → (x = y → (∀ j (h : j < L1.length) (h' : j < L2.length), j < i + 1 → L1[j] = L2[j])) ∧ (x ≠ y → (L1 == L2) = false) from fun x y hx hy => by
          refine ⟨fun hxy j h h' hj => ?_, fun hxy => ?_⟩
          · by_cases e : j = i
            · subst e; rw [hx, hy, hxy]
            · exact HA.out j h h' (by omega)
          · rw [beq_eq_false_iff_ne]
            intro e
            subst e
            exact hxy (hx.symm.trans hy))
        obtain ⟨x, hx⟩ : ∃ x, L1[i] = x := ⟨_, rfl⟩
        obtain ⟨y, hy⟩ : ∃ y, L2[i] = y := ⟨_, rfl⟩
        obtain ⟨f1, f2⟩ := HX.out x y hx hy
        rw [hx] at e1
        rw [hy] at e2
        have F1 := Lib.hid f1
        have F2 := Lib.hid f2
        clear hcell1 hcell2 f1 f2 hx hy HX
        by_cases hxy : x = y
        · have F := Lib.hid (F1.out hxy)
          subst hxy
          go_wp2_with fail
          go_region
          go_wp2
          go_roundw
          case rel => exact ⟨i + 1, by go_num, by omega, F.out, by (repeat (first | (with_reducible exact Below.refl _ _) | (with_reducible assumption) | (with_reducible refine Below.drew ?_) | (focus ((with_reducible refine Below.setCell ?_ ?_ _); rotate_left; (first | omega | (simp <;> omega)))) | (focus ((with_reducible refine Below.alloc ?_ ?_ _); rotate_left; (first | omega | (simp <;> omega)))) | exact Below.refl _ _ | assumption | refine Below.drew ?_ | refine Below.alloc ?_ (by first | omega | (simp <;> omega)) _ | refine Below.setCell ?_ (by first | omega | (simp <;> omega)) _))⟩
          case measure => simp [intOf]; omega
        · have F := Lib.hid (F2.out hxy)
          have hxy' : (x == y) = false := by simpa using hxy
          go_wp2_with fail
          go_region
          go_wp2
          go_ret
          exact ⟨by rw [F.out]; rfl, by (repeat (first | (with_reducible exact Below.refl _ _) | (with_reducible assumption) | (with_reducible refine Below.drew ?_) | (focus ((with_reducible refine Below.setCell ?_ ?_ _); rotate_left; (first | omega | (simp <;> omega)))) | (focus ((with_reducible refine Below.alloc ?_ ?_ _); rotate_left; (first | omega | (simp <;> omega)))) | exact Below.refl _ _ | assumption | refine Below.drew ?_ | refine Below.alloc ?_ (by first | omega | (simp <;> omega)) _ | refine Below.setCell ?_ (by first | omega | (simp <;> omega)) _))⟩
      · obtain rfl : i = n := by omega
        have he : (L1 == L2) = true := by
          rw [beq_iff_eq]
          exact List.ext_getElem (by rw [HN1.out, HN2.out]) fun j h h' => HA.out j h h' (by rw [← HN1.out]; exact h)
        have HE := Lib.hid he
        clear he
        go_wp2
        go_ret
        exact ⟨by rw [HE.out]; rfl, by (repeat (first | (with_reducible exact Below.refl _ _) | (with_reducible assumption) | (with_reducible refine Below.drew ?_) | (focus ((with_reducible refine Below.setCell ?_ ?_ _); rotate_left; (first | omega | (simp <;> omega)))) | (focus ((with_reducible refine Below.alloc ?_ ?_ _); rotate_left; (first | omega | (simp <;> omega)))) | exact Below.refl _ _ | assumption | refine Below.drew ?_ | refine Below.alloc ?_ (by first | omega | (simp <;> omega)) _ | refine Below.setCell ?_ (by first | omega | (simp <;> omega)) _))⟩
  · have he : (L1 == L2) = false := by
      rw [beq_eq_false_iff_ne]
      intro e
      subst e
      exact hlen rfl
    have HE := Lib.hid he
    have hlen2 : ((L1.length : Int) == (L2.length : Int)) = false := by simp; omega
    clear he hr1 hr2
    go_enter Tryd.func18, Tryd.ntmps18
    go_wp2
    go_ret
    exact ⟨by rw [HE.out]; rfl, by (repeat (first | (with_reducible exact Below.refl _ _) | (with_reducible assumption) | (with_reducible refine Below.drew ?_) | (focus ((with_reducible refine Below.setCell ?_ ?_ _); rotate_left; (first | omega | (simp <;> omega)))) | (focus ((with_reducible refine Below.alloc ?_ ?_ _); rotate_left; (first | omega | (simp <;> omega)))) | exact Below.refl _ _ | assumption | refine Below.drew ?_ | refine Below.alloc ?_ (by first | omega | (simp <;> omega)) _ | refine Below.setCell ?_ (by first | omega | (simp <;> omega)) _))⟩
end Go.Proofs.YtpapefegfghakaaDoor
