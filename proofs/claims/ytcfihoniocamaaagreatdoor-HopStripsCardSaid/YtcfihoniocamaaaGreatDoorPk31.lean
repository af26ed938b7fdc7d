/- text.Unquote: the walk. -/
import Derived.Test.YtcfihoniocamaaaGreatDoorPk30
namespace Go.Proofs.YtcfihoniocamaaaGreatDoor
open Go.RowKit Go.Sort Go.Shelf
set_option linter.unusedVariables false

/-- What stands between quotes is meant; none: it may not stand there. -/
def unqG : Bool → List UInt8 → Option (List UInt8)
  | false, [] => some []
  | true, [] => none
  | true, c :: t => (unqG false t).map (c :: ·)
  | false, c :: t => if c = 34 then none else if c = 92 then unqG true t else (unqG false t).map (c :: ·)
def unqR (s : List UInt8) : Option (List UInt8) :=
  if s.length < 2 ∨ bAt s 0 ≠ 34 ∨ bAt s (s.length - 1) ≠ 34 ∨ s.any ctlB = true then none else unqG false ((s.take (s.length - 1)).drop 1)
def unqL (s : List UInt8) : List UInt8 := (unqR s).getD []
def unqE (s : List UInt8) : Int := if (unqR s).isSome then 0 else 11

theorem mid_cons {s : List UInt8} {j : Nat} (h : j < s.length - 1) : (s.take (s.length - 1)).drop j = (s[j]'(by omega)) :: (s.take (s.length - 1)).drop (j + 1) := by
  rw [List.drop_eq_getElem_cons (by rw [List.length_take]; omega)]
  congr 1
  rw [List.getElem_take]
theorem map_snoc (o : Option (List UInt8)) (out : List UInt8) (c : UInt8) : (o.map (c :: ·)).map (out ++ ·) = o.map ((out ++ [c]) ++ ·) := by
  cases o <;> simp
theorem textUnquote_short (s : List UInt8) (hs : s.length < 2) (w : World) : Calls Tryz.prog 101 #[.string (S s)] w fun e w' => e = .returned (.tuple #[.string (S []), .int .i64 11]) ∧ Below w.heap.size w w' := by
  have h1 : (s.length : Int) < 2 := by omega
  go_enter Tryz.func101, Tryz.ntmps101
  go_wp2
  go_ret2
  exact ⟨rfl, by (repeat (first | (with_reducible exact Below.refl _ _) | (with_reducible assumption) | (with_reducible refine Below.drew ?_) | (focus ((with_reducible refine Below.setCell ?_ ?_ _); rotate_left; (first | omega | (simp <;> omega)))) | (focus ((with_reducible refine Below.alloc ?_ ?_ _); rotate_left; (first | omega | (simp <;> omega)))) | exact Below.refl _ _ | assumption | refine Below.drew ?_ | refine Below.alloc ?_ (by first | omega | (simp <;> omega)) _ | refine Below.setCell ?_ (by first | omega | (simp <;> omega)) _))⟩
theorem textUnquote_first (s : List UInt8) (hs : 2 ≤ s.length) (hm : s.length ≤ 1000000) (h : bAt s 0 ≠ 34) (w : World) : Calls Tryz.prog 101 #[.string (S s)] w fun e w' => e = .returned (.tuple #[.string (S []), .int .i64 11]) ∧ Below w.heap.size w w' := by
  have h1 : 2 ≤ (s.length : Int) := by omega
  have h0 : 0 < s.length := by omega
  have h2 : (bAt s 0 != 34) = true := by simpa using h
  clear h
  go_enter Tryz.func101, Tryz.ntmps101
  go_wp2
  go_ret2
  exact ⟨rfl, by (repeat (first | (with_reducible exact Below.refl _ _) | (with_reducible assumption) | (with_reducible refine Below.drew ?_) | (focus ((with_reducible refine Below.setCell ?_ ?_ _); rotate_left; (first | omega | (simp <;> omega)))) | (focus ((with_reducible refine Below.alloc ?_ ?_ _); rotate_left; (first | omega | (simp <;> omega)))) | exact Below.refl _ _ | assumption | refine Below.drew ?_ | refine Below.alloc ?_ (by first | omega | (simp <;> omega)) _ | refine Below.setCell ?_ (by first | omega | (simp <;> omega)) _))⟩
theorem textUnquote_last (s : List UInt8) (hs : 2 ≤ s.length) (hm : s.length ≤ 1000000) (h : bAt s 0 = 34) (h' : bAt s (s.length - 1) ≠ 34) (w : World) : Calls Tryz.prog 101 #[.string (S s)] w fun e w' => e = .returned (.tuple #[.string (S []), .int .i64 11]) ∧ Below w.heap.size w w' := by
  have h1 : 2 ≤ (s.length : Int) := by omega
  have h0 : 0 < s.length := by omega
  obtain ⟨z, hz⟩ : ∃ z, bAt s (s.length - 1) = z := ⟨_, rfl⟩
  rw [hz] at h'
  have h2 : (z != 34) = true := by simpa using h'
  have hz2 : bAt s ((s.length : Int) - 1).toNat = z := by rw [← hz]; congr 1; omega
  clear h'
  go_enter Tryz.func101, Tryz.ntmps101
  go_wp2
  go_ret2
  exact ⟨rfl, by (repeat (first | (with_reducible exact Below.refl _ _) | (with_reducible assumption) | (with_reducible refine Below.drew ?_) | (focus ((with_reducible refine Below.setCell ?_ ?_ _); rotate_left; (first | omega | (simp <;> omega)))) | (focus ((with_reducible refine Below.alloc ?_ ?_ _); rotate_left; (first | omega | (simp <;> omega)))) | exact Below.refl _ _ | assumption | refine Below.drew ?_ | refine Below.alloc ?_ (by first | omega | (simp <;> omega)) _ | refine Below.setCell ?_ (by first | omega | (simp <;> omega)) _))⟩

/-- The set is laid, and the text gone through. -/
theorem someCtl (s : List UInt8) (hm : s.length ≤ 1000000) (w w1 : World) (h : ∀ c : UInt8, w1.cell? ⟨w.heap.size, c.toNat, none⟩ = some (.bool (ctlB c))) : Calls Tryz.prog 70 #[.string (S s), .pointer (some ⟨w.heap.size, 0, none⟩), .func (.func 69) #[] #[]] w1 fun e w' => e = .returned (.bool (s.any ctlB)) ∧ w' = w1 :=
  some_any 69 w.heap.size (enters_of Tryz.func69 (by kernel_rfl) rfl) w1 (fun c => hasCtl_any w.heap.size c w1 (h c)) s (by omega)

set_option maxHeartbeats 1600000 in
set_option maxRecDepth 100000 in
theorem textUnquote_main (s : List UInt8) (hs : 2 ≤ s.length) (hm : s.length ≤ 1000000) (h : bAt s 0 = 34) (h' : bAt s (s.length - 1) = 34) (w : World) : Calls Tryz.prog 101 #[.string (S s)] w fun e w' => e = .returned (.tuple #[.string (S (unqL s)), .int .i64 (unqE s)]) ∧ Below w.heap.size w w' := by
  have h1 : 2 ≤ (s.length : Int) := by omega
  have h0 : 0 < s.length := by omega
  have hmi : (s.length : Int) ≤ 1000000 := by omega
  have hz2 : bAt s ((s.length : Int) - 1).toNat = 34 := by rw [← h']; congr 1; omega
  have CO := Lib.hid (fun W => controls_any W)
  have SO := Lib.hid (fun W W1 hh => someCtl s hm W W1 hh)
  have hR : unqR s = if s.any ctlB = true then none else unqG false ((s.take (s.length - 1)).drop 1) := by
    unfold unqR
    simp only [h, h', ne_eq, not_true_eq_false, false_or, show ¬ s.length < 2 by omega]
  unfold unqL unqE
  obtain ⟨R, hRR⟩ : ∃ R, unqR s = R := ⟨_, rfl⟩
  rw [hRR] at hR ⊢
  clear hRR
  cases ha : s.any ctlB with
  | true =>
    rw [ha, if_pos rfl] at hR
    subst hR
    rw [ha] at SO
    clear ha
    go_enter Tryz.func101, Tryz.ntmps101
    go_wp2_with (first
      | (go_at_call 71; refine Calls.mono (CO.out _) ?_; rintro e w1 ⟨rfl, hb1, hl1, hc1⟩)
      | (go_at_call 70; refine Calls.mono (SO.out _ _ hc1) ?_; rintro e w' ⟨rfl, hw'⟩; obtain rfl := hw'.symm))
    go_ret2
    exact ⟨rfl, hb1⟩
  | false =>
    rw [ha, if_neg (by simp)] at hR
    rw [ha] at SO
    have HR := Lib.hid hR
    clear ha hR
    go_enter Tryz.func101, Tryz.ntmps101
    go_wp2_with (first
      | (go_at_call 71; refine Calls.mono (CO.out _) ?_; rintro e w1 ⟨rfl, hb1, hl1, hc1⟩)
      | (go_at_call 70; refine Calls.mono (SO.out _ _ hc1) ?_; rintro e w' ⟨rfl, hw'⟩; obtain rfl := hw'.symm; have HB1 := Lib.hid hb1; clear hb1 hc1))
    simp only [mk_S]
    go_loopw [5, 6] (fun ov iv wr => ∃ (i : Nat) (out : List UInt8), iv = .int .i64 i ∧ 1 ≤ i ∧ i ≤ s.length - 1 ∧ OwnsB wr w.heap.size ov out ∧ R = (unqG false ((s.take (s.length - 1)).drop i)).map (out ++ ·) ∧ out.length ≤ i ∧ Below w.heap.size w wr) (fun _ iv _ => s.length - (intOf iv).toNat)
    case atStart => exact ⟨1, [], rfl, Nat.le_refl _, by omega, OwnsB.nil _ _, by rw [HR.out]; simp, by simp, HB1.out⟩
    case round =>
      obtain ⟨i, out, rfl, hi0, hi, hown, hout, hol, hB⟩ := hrel
      have HO := Lib.hid hown
      have HBB := Lib.hid hB
      have HOU := Lib.hid hout
      have hz := hB.size
      clear hB hown hout
      by_cases hlt : i < s.length - 1
      · have hil : i < s.length := by omega
        have hii : (i : Int) < (s.length : Int) - 1 := by omega
        have hbi : bAt s i = (s[i].toNat : Int) := bAt_eq hil
        have hmid := mid_cons hlt
        obtain ⟨c, hc⟩ : ∃ c, s[i] = c := ⟨_, rfl⟩
        rw [hc] at hbi hmid
        have hstep := HOU.out
        rw [hmid] at hstep
        clear hmid hc
        by_cases h34 : c = 34
        · subst h34
          have hbj : bAt s i = 34 := hbi
          have hR2 : R = none := hstep
          subst hR2
          clear hstep hbi
          go_wp2
          go_ret2
          exact ⟨rfl, HBB.out⟩
        · have hn34 : ((c.toNat : Int) == 34) = false := by
            simp only [beq_eq_false_iff_ne, ne_eq]
            intro e
            exact h34 (UInt8.toNat.inj (Int.ofNat.inj e))
          by_cases h92 : c = 92
          · subst h92
            have hbj : bAt s i = 92 := hbi
            have hst2 : R = (unqG true ((s.take (s.length - 1)).drop (i + 1))).map (out ++ ·) := hstep
            clear hstep hbi hn34 h34
            by_cases hi2 : i + 1 < s.length - 1
            · rw [mid_cons hi2] at hst2
              have hbd : bAt s (i + 1) = ((s[i + 1]'(by omega)).toNat : Int) := bAt_eq (by omega)
              obtain ⟨d, hd⟩ : ∃ d, (s[i + 1]'(by omega)) = d := ⟨_, rfl⟩
              rw [hd] at hst2 hbd
              have HS := Lib.hid (show R = (unqG false ((s.take (s.length - 1)).drop (i + 2))).map ((out ++ [d]) ++ ·) by rw [← map_snoc]; exact hst2)
              have hne : ((i : Int) + 1 == (s.length : Int) - 1) = false := by simp; omega
              have hi1l : i + 1 < s.length := by omega
              clear hst2 hd
              go_wp2_with (at_builtin; refine wp_append_byte rfl _ _ rfl _ w.heap.size _ out d _ rfl (HO.out.below (by (repeat (first | (with_reducible exact Below.refl _ _) | (with_reducible assumption) | (with_reducible refine Below.drew ?_) | (focus ((with_reducible refine Below.setCell ?_ ?_ _); rotate_left; (first | omega | (simp <;> omega)))) | (focus ((with_reducible refine Below.alloc ?_ ?_ _); rotate_left; (first | omega | (simp <;> omega)))) | exact Below.refl _ _ | assumption | refine Below.drew ?_ | refine Below.alloc ?_ (by first | omega | (simp <;> omega)) _ | refine Below.setCell ?_ (by first | omega | (simp <;> omega)) _)))) rfl _ rfl rfl (by omega) (by omega) ?_; intro v4 w4 hown4 hb4; have HO4 := Lib.hid hown4; have HB4 := Lib.hid hb4; clear hown4 hb4)
              go_roundw
              case rel => exact ⟨i + 2, out ++ [d], by go_num, by omega, by omega, HO4.out, HS.out, by simp; omega, HBB.out.trans HB4.out⟩
              case measure => simp [intOf]; omega
            · have hR2 : R = none := by
                rw [hst2, List.drop_of_length_le (by rw [List.length_take]; omega)]; rfl
              subst hR2
              have heq : ((i : Int) + 1 == (s.length : Int) - 1) = true := by simp; omega
              clear hst2
              go_wp2
              go_ret2
              exact ⟨rfl, HBB.out⟩
          · have hn92 : ((c.toNat : Int) == 92) = false := by
              simp only [beq_eq_false_iff_ne, ne_eq]
              intro e
              exact h92 (UInt8.toNat.inj (Int.ofNat.inj e))
            have HS := Lib.hid (show R = (unqG false ((s.take (s.length - 1)).drop (i + 1))).map ((out ++ [c]) ++ ·) by
              rw [← map_snoc, hstep]
              conv => lhs; unfold unqG
              rw [if_neg h34, if_neg h92])
            clear hstep h34 h92
            go_wp2_with (at_builtin; refine wp_append_byte rfl _ _ rfl _ w.heap.size _ out c _ rfl (HO.out.below (by (repeat (first | (with_reducible exact Below.refl _ _) | (with_reducible assumption) | (with_reducible refine Below.drew ?_) | (focus ((with_reducible refine Below.setCell ?_ ?_ _); rotate_left; (first | omega | (simp <;> omega)))) | (focus ((with_reducible refine Below.alloc ?_ ?_ _); rotate_left; (first | omega | (simp <;> omega)))) | exact Below.refl _ _ | assumption | refine Below.drew ?_ | refine Below.alloc ?_ (by first | omega | (simp <;> omega)) _ | refine Below.setCell ?_ (by first | omega | (simp <;> omega)) _)))) rfl _ rfl rfl (by omega) (by omega) ?_; intro v4 w4 hown4 hb4; have HO4 := Lib.hid hown4; have HB4 := Lib.hid hb4; clear hown4 hb4)
            go_roundw
            case rel => exact ⟨i + 1, out ++ [c], by go_num, by omega, by omega, HO4.out, HS.out, by simp; omega, HBB.out.trans HB4.out⟩
            case measure => simp [intOf]; omega
      · have hie : i = s.length - 1 := by omega
        have hdr : (s.take (s.length - 1)).drop i = [] := List.drop_of_length_le (by rw [List.length_take]; omega)
        have hR2 := HOU.out
        rw [hdr] at hR2
        simp only [unqG, Option.map_some, List.append_nil] at hR2
        subst hR2
        have hcv := HO.out.text
        have hii : (s.length : Int) - 1 ≤ (i : Int) := by omega
        clear hdr hie
        go_wp2
        go_ret2
        exact ⟨rfl, HBB.out⟩

theorem textUnquote (s : List UInt8) (hm : s.length ≤ 1000000) (w : World) : Calls Tryz.prog 101 #[.string (S s)] w fun e w' => e = .returned (.tuple #[.string (S (unqL s)), .int .i64 (unqE s)]) ∧ Below w.heap.size w w' := by
  by_cases h1 : s.length < 2
  · have hR : unqR s = none := by unfold unqR; rw [if_pos (.inl h1)]
    unfold unqL unqE
    rw [hR]
    exact textUnquote_short s h1 w
  · by_cases h2 : bAt s 0 = 34
    · by_cases h3 : bAt s (s.length - 1) = 34
      · exact textUnquote_main s (by omega) hm h2 h3 w
      · have hR : unqR s = none := by unfold unqR; rw [if_pos (.inr (.inr (.inl h3)))]
        unfold unqL unqE
        rw [hR]
        exact textUnquote_last s (by omega) hm h2 h3 w
    · have hR : unqR s = none := by unfold unqR; rw [if_pos (.inr (.inl h2))]
      unfold unqL unqE
      rw [hR]
      exact textUnquote_first s (by omega) hm h2 w
end Go.Proofs.YtcfihoniocamaaaGreatDoor
