/- The document's cut and split of a text at a byte: the walks. -/
import Derived.Test.YtenflcaalckdfaaGreatDoorVv30
import Derived.Test.YtenflcaalckdfaaGreatDoorVv10
import Derived.Test.YtenflcaalckdfaaGreatDoorVv8
namespace Go.Proofs.YtenflcaalckdfaaGreatDoor
open Go.RowKit Go.Sort Go.Shelf
set_option linter.unusedVariables false

theorem cutR_no {l : List UInt8} {c : UInt8} (h : ∀ j (hj : j < l.length), l[j] ≠ c) : cut1 l c = (l, [], false) := by
  unfold cut1
  rw [index_no _ _ (fun hm => by obtain ⟨j, hj, e⟩ := List.getElem_of_mem hm; exact h j hj e)]
  simp
theorem cutR_at {l : List UInt8} {c : UInt8} {i : Nat} (hi : i < l.length) (hc : l[i] = c) (h : ∀ j (hj : j < l.length), j < i → l[j] ≠ c) : cut1 l c = (l.take i, l.drop (i + 1), true) := by
  have e : Lib.indexByte l c = i := by
    conv => lhs; rw [← List.take_append_drop i l, List.drop_eq_getElem_cons hi, hc]
    rw [index_at _ _ _ (fun hm => by
      obtain ⟨j, hj, e⟩ := List.getElem_of_mem hm
      rw [List.length_take] at hj
      rw [List.getElem_take] at e
      exact h j (by omega) (by omega) e)]
    rw [List.length_take]; omega
  unfold cut1
  rw [e]
  simp

set_option maxHeartbeats 800000 in
theorem refCut (l : List UInt8) (c : UInt8) (hl : l.length ≤ 1000000) (w : World) : Calls Tryz.prog 72 #[.string (S l), .int .u8 (c.toNat : Int)] w fun e w' => e = .returned (.tuple #[.string (S (cut1 l c).1), .string (S (cut1 l c).2.1), .bool (cut1 l c).2.2]) ∧ Below w.heap.size w w' := by
  have hl1 : (l.length : Int) ≤ 1000000 := by omega
  have hc256 := c.toNat_lt
  have HB := Lib.hid (show ∀ d : UInt8, (d = c ↔ (d.toNat : Int) = (c.toNat : Int)) from fun d => ⟨fun e => by rw [e], fun e => UInt8.toNat.inj (by omega)⟩)
  have HY := Lib.hid (fun (i : Nat) (hi : i < l.length) (hc : l[i] = c) h => cutR_at hi hc h)
  have HN := Lib.hid (fun h => cutR_no (l := l) (c := c) h)
  obtain ⟨⟨x, y, z⟩, hxyz⟩ : ∃ q, cut1 l c = q := ⟨_, rfl⟩
  rw [hxyz] at HY HN ⊢
  obtain ⟨ci, hci⟩ : ∃ ci : Int, (c.toNat : Int) = ci := ⟨_, rfl⟩
  have hci0 : 0 ≤ ci ∧ ci < 256 := by omega
  obtain ⟨hci0, hci1⟩ := hci0
  rw [hci] at HB ⊢
  simp only
  clear hci hc256 hxyz
  go_enter Tryz.func72, Tryz.ntmps72
  go_wp2
  go_loop [7] (fun iv => ∃ i : Nat, iv = .int .i64 i ∧ i ≤ l.length ∧ (∀ j (hj : j < l.length), j < i → l[j] ≠ c)) (fun iv => l.length - (intOf iv).toNat)
  case atStart => exact ⟨0, rfl, Nat.zero_le _, fun j _ h => by omega⟩
  case round =>
    obtain ⟨i, rfl, hi, hall⟩ := hrel
    have HA := Lib.hid hall
    clear hall
    by_cases hlt : i < l.length
    · have hw : IntKind.i64.wrap ((i : Int) + 1) = (i : Int) + 1 := by (first | rw [IntKind.wrap_i64] | simp only [IntKind.wrap, IntKind.bits, IntKind.signed]) <;> (try simp) <;> omega
      by_cases hc : l[i] = c
      · have e1 : bAt l i = ci := by rw [bAt_eq hlt]; exact (HB.out _).1 hc
        have hr := HY.out i hlt hc HA.out
        injection hr with r1 r23
        injection r23 with r2 r3
        subst r1 r2 r3
        have hi1 : i + 1 ≤ l.length := by omega
        clear hc
        go_wp2_with fail
        go_region
        all_goals
          go_wp2
          go_ret3
          exact ⟨by first | rfl | (simp; done) | (congr 3; simp <;> omega), by (repeat (first | with_reducible exact Below.refl _ _ | with_reducible assumption | with_reducible refine Below.drew ?_ | (with_reducible refine Below.setCell ?_ ?_ _; rotate_left; (first | omega | (simp <;> omega))) | (with_reducible refine Below.alloc ?_ ?_ _; rotate_left; (first | omega | (simp <;> omega))) | exact Below.refl _ _ | assumption))⟩
      · have e1 : ¬ bAt l i = ci := by rw [bAt_eq hlt]; exact fun e => hc ((HB.out _).2 e)
        have e2 : (bAt l i == ci) = false := by simpa using e1
        have HF := Lib.hid (show ∀ j (hj : j < l.length), j < i + 1 → l[j] ≠ c from fun j hj h => by
          by_cases e : j = i
          · subst e; exact hc
          · exact HA.out j hj (by omega))
        clear hc
        go_wp2
        go_round
        case rel => exact ⟨i + 1, by go_num, by omega, HF.out⟩
        case measure => simp [intOf]; omega
    · obtain rfl : i = l.length := by omega
      have hr := HN.out (fun j hj => HA.out j hj hj)
      injection hr with r1 r23
      injection r23 with r2 r3
      subst r1 r2 r3
      go_wp2
      go_ret3
      exact ⟨by first | rfl | (simp; done), by (repeat (first | with_reducible exact Below.refl _ _ | with_reducible assumption | with_reducible refine Below.drew ?_ | (with_reducible refine Below.setCell ?_ ?_ _; rotate_left; (first | omega | (simp <;> omega))) | (with_reducible refine Below.alloc ?_ ?_ _; rotate_left; (first | omega | (simp <;> omega))) | exact Below.refl _ _ | assumption))⟩

theorem split_step (l : List UInt8) (c : UInt8) : Lib.split l [c] = (cut1 l c).1 :: (if (cut1 l c).2.2 = true then Lib.split (cut1 l c).2.1 [c] else []) := by
  rcases first_part l c with h | ⟨a, r, h1, rfl⟩
  · have e : cut1 l c = (l, [], false) := cutR_no fun j hj e => h (e ▸ List.getElem_mem hj)
    rw [e, split_none _ _ h]; simp
  · have e : cut1 (a ++ c :: r) c = (a, r, true) := by
      unfold cut1
      rw [index_at _ _ _ h1]
      simp
    rw [e, split_at _ _ _ h1]; simp
theorem cut_shrinks (l : List UInt8) (c : UInt8) (h : (cut1 l c).2.2 = true) : (cut1 l c).2.1.length < l.length ∧ (cut1 l c).1.length ≤ l.length := by
  rcases first_part l c with h2 | ⟨a, r, h1, rfl⟩
  · have e : cut1 l c = (l, [], false) := cutR_no fun j hj e => h2 (e ▸ List.getElem_mem hj)
    rw [e] at h; cases h
  · have e : cut1 (a ++ c :: r) c = (a, r, true) := by
      unfold cut1
      rw [index_at _ _ _ h1]
      simp
    rw [e]; simp; omega

set_option maxHeartbeats 1600000 in
set_option maxRecDepth 100000 in
theorem refPSplit (s : List UInt8) (c : UInt8) (ci : Int) (hci : (c.toNat : Int) = ci) (hs : s.length ≤ 1000000) (w : World) : Calls Tryz.prog 71 #[.string (S s), .int .u8 ci] w fun e w' => ∃ v, e = .returned v ∧ Owns w' w.heap.size v (Lib.split s [c]) ∧ Below w.heap.size w w' := by
  subst hci
  obtain ⟨R, hR⟩ : ∃ R, Lib.split s [c] = R := ⟨_, rfl⟩
  rw [hR]
  have HR := Lib.hid hR
  have CU := Lib.hid (fun t (ht : t.length ≤ 1000000) W => refCut t c ht W)
  have HST := Lib.hid (fun t => split_step t c)
  have HSH := Lib.hid (fun t => cut_shrinks t c)
  obtain ⟨ci, hci⟩ : ∃ ci : Int, (c.toNat : Int) = ci := ⟨_, rfl⟩
  rw [hci] at CU ⊢
  clear hR hci
  go_enter Tryz.func71, Tryz.ntmps71
  go_wp2
  go_loopw [0, 5] (fun sv ov wr => ∃ (t : List UInt8) (out : List (List UInt8)), sv = .string (S t) ∧ out ++ Lib.split t [c] = R ∧ t.length + out.length ≤ s.length ∧ Owns wr w.heap.size ov out ∧ Below w.heap.size w wr) (fun sv _ _ => strLen sv)
  case atStart => exact ⟨s, [], rfl, HR.out, by simp, Owns.made _ _ (Nat.le_refl _), by (repeat (first | with_reducible exact Below.refl _ _ | with_reducible assumption | with_reducible refine Below.drew ?_ | (with_reducible refine Below.setCell ?_ ?_ _; rotate_left; (first | omega | (simp <;> omega))) | (with_reducible refine Below.alloc ?_ ?_ _; rotate_left; (first | omega | (simp <;> omega))) | exact Below.refl _ _ | assumption))⟩
  case round =>
    obtain ⟨t, out, rfl, hout, hlen, hown, hB⟩ := hrel
    have HO := Lib.hid hown
    have HBB := Lib.hid hB
    have hz := hB.size
    have C := CU.out t (by omega)
    have hst := HST.out t
    have hsh := HSH.out t
    rw [hst] at hout
    obtain ⟨⟨x, y, z⟩, hxyz⟩ : ∃ q, cut1 t c = q := ⟨_, rfl⟩
    rw [hxyz] at C hout hsh
    have C := Lib.hid C
    simp only at C hout hsh
    have HOU := Lib.hid hout
    clear hst hxyz hout hown hB
    cases z with
    | true =>
      obtain ⟨hs1, hs2⟩ := hsh rfl
      go_wp2_with (first
        | (go_at_call 72; refine Calls.mono (C.out _) ?_; rintro e w2 ⟨rfl, hb2⟩; have hz2 := hb2.size)
        | (at_builtin; refine wp_append_text rfl _ _ rfl _ w.heap.size _ out x (HO.out.below (by (repeat (first | with_reducible exact Below.refl _ _ | with_reducible assumption | with_reducible refine Below.drew ?_ | (with_reducible refine Below.setCell ?_ ?_ _; rotate_left; (first | omega | (simp <;> omega))) | (with_reducible refine Below.alloc ?_ ?_ _; rotate_left; (first | omega | (simp <;> omega))) | exact Below.refl _ _ | assumption)))) rfl rfl (by omega) (by omega) ?_; intro v4 w4 hown4 hb4; have HO4 := Lib.hid hown4; have HB4 := Lib.hid hb4; clear hown4 hb4)
        | fail)
      go_roundw
      case rel => exact ⟨y, out ++ [x], rfl, by have := HOU.out; simpa using this, by simp; omega, HO4.out, HBB.out.trans (hb2.mono hz) |>.trans HB4.out⟩
      case measure => simp [strLen_S]; omega
    | false =>
      go_wp2_with (first
        | (go_at_call 72; refine Calls.mono (C.out _) ?_; rintro e w2 ⟨rfl, hb2⟩; have hz2 := hb2.size)
        | (at_builtin; refine wp_append_text rfl _ _ rfl _ w.heap.size _ out x (HO.out.below (by (repeat (first | with_reducible exact Below.refl _ _ | with_reducible assumption | with_reducible refine Below.drew ?_ | (with_reducible refine Below.setCell ?_ ?_ _; rotate_left; (first | omega | (simp <;> omega))) | (with_reducible refine Below.alloc ?_ ?_ _; rotate_left; (first | omega | (simp <;> omega))) | exact Below.refl _ _ | assumption)))) rfl rfl (by omega) (by omega) ?_; intro v4 w4 hown4 hb4; have HO4 := Lib.hid hown4; have HB4 := Lib.hid hb4; clear hown4 hb4)
        | fail)
      have hfin : Owns w4 w.heap.size v4 R := by have := HOU.out; simp at this; rw [← this]; exact HO4.out
      have HF := Lib.hid hfin
      obtain ⟨ao, cap, rfl, _⟩ := hfin.shape
      go_ret
      exact ⟨_, rfl, HF.out, HBB.out.trans (hb2.mono hz) |>.trans HB4.out⟩
end Go.Proofs.YtenflcaalckdfaaGreatDoor
