/- The law TextTrims: its walk. -/
import Derived.Test.YtigohbjbmipccaaDoorTextSplits
import Derived.Test.YtigohbjbmipccaaDoorTrimMath2
namespace Go.Proofs.YtigohbjbmipccaaDoor
open Go.RowKit Go.Sort Go.Shelf
set_option linter.unusedVariables false

/-- A text's ends are no blanks, as the law's tests ask it. -/
theorem ends_ok {x t : List UInt8} (h : trim x = t) (h0 : 0 < t.length) : ((bAt t 0 == 32) = false ∧ (bAt t 0 == 9) = false) ∧ ((bAt t (t.length - 1) == 32) = false ∧ (bAt t (t.length - 1) == 9) = false) := by
  have hb : ∀ c : UInt8, blankB c = false → (((c.toNat : Int) == 32) = false ∧ ((c.toNat : Int) == 9) = false) := fun c hc => by
    unfold blankB at hc
    simp only [Bool.or_eq_false_iff, beq_eq_false_iff_ne, ne_eq] at hc
    have t1 : (32 : UInt8).toNat = 32 := rfl
    have t2 : (9 : UInt8).toNat = 9 := rfl
    simp only [beq_eq_false_iff_ne, ne_eq]
    exact ⟨fun e => hc.1 (UInt8.toNat.inj (by omega)), fun e => hc.2 (UInt8.toNat.inj (by omega))⟩
  constructor
  · cases t with
    | nil => simp at h0
    | cons c t => rw [bAt_eq (by simp)]; exact hb c (trim_head h)
  · rcases snoc_cases t with rfl | ⟨t, c, rfl⟩
    · simp at h0
    · rw [bAt_eq (by simp)]
      have : (t ++ [c])[(t ++ [c]).length - 1]'(by simp) = c := by simp
      rw [this]
      exact hb c (trim_last (by rw [h]))

set_option maxHeartbeats 1600000 in
set_option maxRecDepth 100000 in
theorem textTrims_any (s : ByteArray) (b : Int) (w : World) (h0 : s.size ≤ maxLen) (h1 : (Lit.int .u8 b).wf = true) (_hL : True) :
    Calls Tryd.prog 5 #[.string s, .int .u8 b] w fun e w' => e = .returned (.bool true) ∧ Below w.heap.size w w' := by
  obtain ⟨l, rfl⟩ := S_of s
  rw [S_size] at h0
  obtain ⟨c, rfl⟩ := u8_nat h1
  have C1 := Lib.hid (fun W => short l h0 W)
  obtain ⟨x, hx, hxl⟩ : ∃ x, l.take 400 = x ∧ x.length ≤ 400 := ⟨_, rfl, by simp; omega⟩
  rw [hx] at C1
  clear hx h1
  have V1 := Lib.hid (via_of (w := w) fun W => alive W)
  have V2 := Lib.hid (via_of (w := w) fun W => textTrim x (by omega) W)
  have V3 := Lib.hid (via_of (w := w) fun W => textTrim (trim x) (by have := trim_len x; omega) W)
  have V4 := Lib.hid (show ∀ z, z = 32 :: (x ++ [9]) → Via w 15 #[.string (S z)] (.string (S (trim x))) from fun z hz => by
    have := via_of (w := w) fun W => textTrim (32 :: (x ++ [9])) (by simp; omega) W
    rw [trim_pad] at this
    rw [hz]; exact this)
  rw [trim_idem] at V3
  have hlen := trim_len x
  have HE := Lib.hid (fun h0 => ends_ok (x := x) rfl h0)
  have C5 := Lib.hid (show ∀ W, (∀ j (h : j < x.length), x[j] ≠ c ∧ x[j] ≠ 34) → Calls Tryd.prog 10 #[.string (S x), .int .u8 (c.toNat : Int)] W fun e w' =>
      ∃ v, Owns w' W.heap.size v (if c = 34 ∨ c = 92 then [] else [trim x]) ∧ e = .returned (.tuple #[v, .int .i64 (if c = 34 ∨ c = 92 then 11 else 0)]) ∧ Below W.heap.size W w' from fun W h => by
    have hsp : splitL c x = if c = 34 ∨ c = 92 then none else some [trim x] := by
      unfold splitL
      split
      · rfl
      · rw [parts_one x [] (fun hm => by
          obtain ⟨j, hj, e⟩ := List.getElem_of_mem hm
          exact (h j hj).2 e) (fun hm => by
          obtain ⟨j, hj, e⟩ := List.getElem_of_mem hm
          exact (h j hj).1 e)]
        rfl
    refine textSplit_to (by omega) ?_ ?_ W
    · rw [hsp]; split <;> rfl
    · rw [hsp]; split <;> rfl)
  obtain ⟨t, ht⟩ : ∃ t, trim x = t := ⟨_, rfl⟩
  rw [ht] at V2 V3 V4 hlen HE C5
  have hb := Below.refl w.heap.size w
  clear ht
  have t34 : (34 : UInt8).toNat = 34 := rfl
  have t92 : (92 : UInt8).toNat = 92 := rfl
  have HB := Lib.hid (show ∀ d : UInt8, (d = c ↔ (d.toNat : Int) = (c.toNat : Int)) from fun d => ⟨fun e => by rw [e], fun e => UInt8.toNat.inj (by omega)⟩)
  obtain ⟨ci, hci⟩ : ∃ ci : Int, (c.toNat : Int) = ci := ⟨_, rfl⟩
  have hci2 : (c = 34 ↔ ci = 34) ∧ (c = 92 ↔ ci = 92) := ⟨⟨fun e => by rw [← hci, e]; rfl, fun e => UInt8.toNat.inj (by omega)⟩, ⟨fun e => by rw [← hci, e]; rfl, fun e => UInt8.toNat.inj (by omega)⟩⟩
  have HC := Lib.hid hci2
  rw [hci] at C5 HB ⊢
  clear hci hci2 t34 t92
  have hpos : t.length = 0 ∨ 0 < t.length := by omega
  have hq : (t = [] ∧ t.length = 0) ∨ (t.isEmpty = false ∧ 0 < t.length ∧ (((bAt t 0 == 32) = false ∧ (bAt t 0 == 9) = false) ∧ ((bAt t (t.length - 1) == 32) = false ∧ (bAt t (t.length - 1) == 9) = false))) := by
    rcases hpos with h | h
    · exact .inl ⟨List.length_eq_zero_iff.1 h, h⟩
    · exact .inr ⟨by cases t <;> simp_all, h, HE.out h⟩
  clear hpos
  rcases hq with ⟨rfl, _⟩ | ⟨q0, q1, ⟨q2, q3⟩, q4, q5⟩
  all_goals
    go_enter Tryd.func5, Tryd.ntmps5
    go_wp2_with (first
      | (go_at_call 9; with_reducible refine (C1.out _).mono ?_; rintro e w' ⟨rfl, rfl⟩)
      | (go_at_call 15; with_reducible refine (V2.out _ (by assumption)).mono ?_; rintro e w' ⟨rfl, hb⟩)
      | (go_at_call 15; with_reducible refine (V3.out _ (by assumption)).mono ?_; rintro e w' ⟨rfl, hb⟩)
      | (go_at_call 15; refine (V4.out _ (by simp) _ (by assumption)).mono ?_; rintro e w' ⟨rfl, hb⟩))
    go_loop [64] (fun iv => ∃ i : Nat, iv = .int .i64 i ∧ i ≤ x.length ∧ ∀ j (h : j < x.length), j < i → x[j] ≠ c ∧ x[j] ≠ 34) (fun iv => x.length - (intOf iv).toNat)
    case atStart => exact ⟨0, rfl, Nat.zero_le _, fun j _ h => by omega⟩
    case round =>
      obtain ⟨i, rfl, hi, hall⟩ := hrel
      have HA := Lib.hid hall
      clear hall
      by_cases hlt : i < x.length
      · obtain ⟨a1, a2⟩ := bAt_of hlt (n := 34) 34 rfl
        by_cases hxc : x[i] = c
        · have e1 : bAt x i = ci := by rw [bAt_eq hlt]; exact (HB.out _).1 hxc
          clear a1 a2 hxc
          go_wp2_with (go_at_call 12; refine (V1.out _ (by assumption)).mono ?_; rintro e w' ⟨rfl, hb⟩)
          go_ret
          exact ⟨rfl, by assumption⟩
        · have e1 : ¬ bAt x i = ci := by rw [bAt_eq hlt]; exact fun e => hxc ((HB.out _).2 e)
          have e1' : (bAt x i == ci) = false := by simpa using e1
          by_cases hx34 : x[i] = 34
          · have e2 := a1 hx34
            clear a1 a2 hxc hx34
            go_wp2_with (go_at_call 12; refine (V1.out _ (by assumption)).mono ?_; rintro e w' ⟨rfl, hb⟩)
            go_ret
            exact ⟨rfl, by assumption⟩
          · obtain ⟨e2, e3⟩ := a2 hx34
            have HN := Lib.hid (show ∀ j (h : j < x.length), j < i + 1 → x[j] ≠ c ∧ x[j] ≠ 34 from fun j h hj => by
              by_cases e : j = i
              · subst e; exact ⟨hxc, hx34⟩
              · exact HA.out j h (by omega))
            clear a1 a2 hxc hx34
            go_wp2
            go_round
            case rel => exact ⟨i + 1, by go_num, by omega, HN.out⟩
            case measure => simp [intOf]; omega
      · have hfin : ∀ j (h : j < x.length), x[j] ≠ c ∧ x[j] ≠ 34 := fun j h => HA.out j h (by omega)
        have C6 := fun W => C5.out W hfin
        clear hfin
        by_cases hq : c = 34 ∨ c = 92
        · rw [if_pos hq, if_pos hq] at C6
          rcases hq with hq | hq
          · obtain rfl := HC.out.1.1 hq
            go_wp2_with fail
            refine (C6 _).mono ?_
            rintro e w1 ⟨v, hown, rfl, hb1⟩
            have hb2 := hb.trans (hb1.mono hb.size)
            clear hown
            go_wp2_with (go_at_call 12; refine (V1.out _ (by assumption)).mono ?_; rintro e w' ⟨rfl, hb⟩)
            go_ret
            exact ⟨rfl, by assumption⟩
          · obtain rfl := HC.out.2.1 hq
            go_wp2_with fail
            refine (C6 _).mono ?_
            rintro e w1 ⟨v, hown, rfl, hb1⟩
            have hb2 := hb.trans (hb1.mono hb.size)
            clear hown
            go_wp2_with (go_at_call 12; refine (V1.out _ (by assumption)).mono ?_; rintro e w' ⟨rfl, hb⟩)
            go_ret
            exact ⟨rfl, by assumption⟩
        · rw [if_neg hq, if_neg hq] at C6
          have hn34 : (ci == 34) = false := by simp only [beq_eq_false_iff_ne, ne_eq]; exact fun e => hq (.inl (HC.out.1.2 e))
          have hn92 : (ci == 92) = false := by simp only [beq_eq_false_iff_ne, ne_eq]; exact fun e => hq (.inr (HC.out.2.2 e))
          go_wp2_with fail
          refine (C6 _).mono ?_
          rintro e w1 ⟨v, hown, rfl, hb1⟩
          have hb2 := hb.trans (hb1.mono hb.size)
          obtain ⟨g, cap, rfl, k1, k2, k3, k4⟩ := hown.at 0 (by simp)
          have e1 := k4 0 (by simp)
          simp only [List.length_cons, List.length_nil, List.getElem_cons_zero] at e1 k1
          clear k4 hown
          go_wp2_with (go_at_call 12; refine (alive _).mono ?_; rintro e w2 ⟨rfl, hb3⟩; have e2 := (hb3.cell (p := ⟨g, 0, none⟩) k3).trans e1; have hb4 := hb2.trans (hb3.mono hb2.size))
          go_ret
          exact ⟨rfl, by assumption⟩
end Go.Proofs.YtigohbjbmipccaaDoor
