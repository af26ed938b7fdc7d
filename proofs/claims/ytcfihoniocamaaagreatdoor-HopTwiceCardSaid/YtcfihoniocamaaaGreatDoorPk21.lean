/- The document's words, and which names are for the next one alone: the walks. Which names are for the next one alone: the document's walks; the law's known row. -/
import Derived.Test.YtcfihoniocamaaaGreatDoorPk19
import Derived.Test.YtcfihoniocamaaaGreatDoorPk20
namespace Go.Proofs.YtcfihoniocamaaaGreatDoor
open Go.RowKit Go.Sort Go.Shelf
set_option linter.unusedVariables false

set_option maxHeartbeats 1600000 in
set_option maxRecDepth 100000 in
theorem refHopWords (v : Value) (L : List Fld) (w : World) (hr : ReadsF w v L) (hL : HopRow L) :
    Calls Tryz.prog 37 #[v] w fun e w' => ∃ v', e = .returned v' ∧ Owns w' w.heap.size v' (hopWords L) ∧ Below w.heap.size w w' := by
  have AL := Lib.hid (refAll v L connL (by decide) w hr hL.small (by have := hL.len; omega))
  unfold connL at AL
  have hxs : ∀ x ∈ (namedL L connL).map (·.2), x.length ≤ 10000 := fun x hx => by
    obtain ⟨f, hf, rfl⟩ := List.mem_map.1 hx
    have := (hL.each f (List.mem_filter.1 hf).1).2
    omega
  have hxl : ((namedL L connL).map (·.2)).length ≤ 1000 := by rw [List.length_map]; exact Nat.le_trans (List.length_filter_le _ _) (by have := hL.len; omega)
  have JO := Lib.hid (fun u W (h : Reads W u ((namedL L connL).map (·.2))) => refJoined u _ W h hxs hxl)
  have hjl := hL.joined connL
  have hjd : Lib.join ((namedL L connL).map (·.2)) [44, 32] = joinedL L connL := rfl
  unfold connL at JO
  rw [show Lib.join ((namedL L [99, 111, 110, 110, 101, 99, 116, 105, 111, 110]).map (·.2)) [44, 32] = joinedL L connL from rfl] at JO
  unfold hopWords
  obtain ⟨s, hs⟩ : ∃ s, joinedL L connL = s := ⟨_, rfl⟩
  rw [hs] at JO hjl ⊢
  obtain ⟨xs, hx⟩ : ∃ xs, (namedL L [99, 111, 110, 110, 101, 99, 116, 105, 111, 110]).map (·.2) = xs := ⟨_, rfl⟩
  rw [hx] at AL JO
  have hsl : (s.length : Int) ≤ 60000 := by omega
  have TR := Lib.hid (fun l hl W => refTrim l hl W)
  have LO := Lib.hid (fun l hl W => refLower l hl W)
  obtain ⟨R, hR⟩ : ∃ R, wordsOf s = R := ⟨_, rfl⟩
  have HR := Lib.hid hR
  rw [hR]
  clear hr hL hxs hxl hjd hs hx hR
  go_enter Tryz.func37, Tryz.ntmps37
  go_wp2_with (first
    | (go_at_call 10; refine Calls.mono AL.out ?_; rintro e w1 ⟨v1, rfl, ho1, hb1⟩; have HO1 := Lib.hid ho1; have HB1 := Lib.hid hb1; have hz1 := hb1.size; clear ho1 hb1)
    | (go_at_call 40; refine Calls.mono (JO.out _ _ (by first | exact HO1.out | exact HO1.out.reads)) ?_; rintro e w' ⟨rfl, hw'⟩; obtain rfl := hw'.symm)
    | fail)
  simp only [mk_S]
  go_loopw [4, 5, 6] (fun ov nv iv wr => ∃ (k : Nat) (out : List (List UInt8)) (now : List UInt8), iv = .int .i64 k ∧ k ≤ s.length + 1 ∧ nv = .string (S now) ∧ Owns wr w.heap.size ov out ∧ (44 : UInt8) ∉ now ∧ now.length ≤ k ∧ out.length ≤ k ∧ (if k ≤ s.length then out ++ wordsOf (now ++ s.drop k) = R else out = R) ∧ Below w.heap.size w wr) (fun _ _ iv _ => s.length + 1 - (intOf iv).toNat)
  case atStart => exact ⟨0, [], [], rfl, Nat.zero_le _, rfl, (Owns.made w1 w.heap.size hz1), by simp, Nat.le_refl _, Nat.le_refl _, by rw [if_pos (Nat.zero_le _)]; exact HR.out, by have := HB1.out; (repeat (first | (with_reducible exact Below.refl _ _) | (with_reducible assumption) | (with_reducible refine Below.drew ?_) | (focus ((with_reducible refine Below.setCell ?_ ?_ _); rotate_left; (first | omega | (simp <;> omega)))) | (focus ((with_reducible refine Below.alloc ?_ ?_ _); rotate_left; (first | omega | (simp <;> omega)))) | exact Below.refl _ _ | assumption | refine Below.drew ?_ | refine Below.alloc ?_ (by first | omega | (simp <;> omega)) _ | refine Below.setCell ?_ (by first | omega | (simp <;> omega)) _))⟩
  case round =>
    obtain ⟨k, out, now, rfl, hk, rfl, hown, hno, hnl, hol, hout, hB⟩ := hrel
    have HO := Lib.hid hown
    have HB := Lib.hid hB
    have hz := hB.size
    have HN := Lib.hid hno
    have HOU := Lib.hid hout
    clear hown hB hno hout
    by_cases hkl : k ≤ s.length
    · have hend : k = s.length ∨ (k < s.length ∧ bAt s k = 44) ∨ (k < s.length ∧ (bAt s k == 44) = false) := by
        by_cases h : k < s.length
        · by_cases h2 : bAt s k = 44
          · exact .inr (.inl ⟨h, h2⟩)
          · exact .inr (.inr ⟨h, by simpa using h2⟩)
        · exact .inl (by omega)
      have T := TR.out now (by omega)
      have htl := trim_le now
      obtain ⟨tn, htn⟩ : ∃ q, trim now = q := ⟨_, rfl⟩
      rw [htn] at T htl
      have LL := LO.out tn (by omega)
      obtain ⟨ln, hln⟩ : ∃ q, lower tn = q := ⟨_, rfl⟩
      rw [hln] at LL
      have T := Lib.hid T
      have LL := Lib.hid LL
      have HLN := Lib.hid (show lower (trim now) = ln by rw [htn, hln])
      clear htn hln
      have hki : (k : Int) ≤ (s.length : Int) := by omega
      rcases hend with rfl | ⟨hlt, h44⟩ | ⟨hlt, h44⟩
      · have HF := Lib.hid (show out ++ [ln] = R by
          have h := HOU.out
          rw [if_pos (Nat.le_refl _), List.drop_length, List.append_nil] at h
          rw [← h]
          unfold wordsOf
          rw [split_none _ _ HN.out, List.map_cons, List.map_nil, HLN.out])
        go_wp2_with (first
          | (go_at_call 24; refine Calls.mono (T.out _) ?_; rintro e w' ⟨rfl, hw'⟩; obtain rfl := hw'.symm)
          | (go_at_call 60; refine Calls.mono (LL.out _) ?_; rintro e w4 ⟨rfl, hb4⟩; have hz4 := hb4.size)
          | (at_builtin; refine wp_append_text' rfl _ _ rfl _ w.heap.size _ out ln (HO.out.below hb4) rfl _ rfl rfl (by omega) (by omega) ?_; intro v6 w6 hown6 hb6; have HO6 := Lib.hid hown6; have HB6 := Lib.hid (HB.out.trans ((hb4.mono hz).trans hb6)); clear hown6 hb6)
          | fail)
        go_roundw
        case rel => exact ⟨s.length + 1, out ++ [ln], [], by go_num, by omega, rfl, HO6.out, by simp, by simp, by simp; omega, by rw [if_neg (by omega)]; exact HF.out, HB6.out⟩
        case measure => first | (simp [intOf]; done) | (simp [intOf]; omega)
      · have hne : ((k : Int) == (s.length : Int)) = false := by simp; omega
        have hsk : s[k] = 44 := by
          rw [bAt_eq hlt] at h44
          exact UInt8.toNat.inj (by have h2 : (44 : UInt8).toNat = 44 := rfl; omega)
        have HF := Lib.hid (show (out ++ [ln]) ++ wordsOf ([] ++ s.drop (k + 1)) = R by
          have h := HOU.out
          rw [if_pos hkl, List.drop_eq_getElem_cons hlt, hsk] at h
          rw [← h, List.nil_append]
          unfold wordsOf
          rw [split_at _ _ _ HN.out, List.map_cons, HLN.out, List.append_assoc, List.singleton_append])
        clear hsk
        go_wp2_with (first
          | (go_at_call 24; refine Calls.mono (T.out _) ?_; rintro e w' ⟨rfl, hw'⟩; obtain rfl := hw'.symm)
          | (go_at_call 60; refine Calls.mono (LL.out _) ?_; rintro e w4 ⟨rfl, hb4⟩; have hz4 := hb4.size)
          | (at_builtin; refine wp_append_text' rfl _ _ rfl _ w.heap.size _ out ln (HO.out.below hb4) rfl _ rfl rfl (by omega) (by omega) ?_; intro v6 w6 hown6 hb6; have HO6 := Lib.hid hown6; have HB6 := Lib.hid (HB.out.trans ((hb4.mono hz).trans hb6)); clear hown6 hb6)
          | fail)
        go_roundw
        case rel => exact ⟨k + 1, out ++ [ln], [], by go_num, by omega, rfl, HO6.out, by simp, by simp, by simp; omega, by rw [if_pos (by omega)]; exact HF.out, HB6.out⟩
        case measure => simp [intOf]; omega
      · have hne : ((k : Int) == (s.length : Int)) = false := by simp; omega
        have hsl2 : (s.take (k + 1)).drop k = [s[k]] := by
          rw [List.take_succ_eq_append_getElem hlt, List.drop_append]
          simp [Nat.le_of_lt hlt]
        have hsk : s[k] ≠ 44 := by
          intro e
          rw [bAt_eq hlt, e] at h44
          revert h44; decide
        have HF := Lib.hid (show out ++ wordsOf ((now ++ [s[k]]) ++ s.drop (k + 1)) = R by
          have h := HOU.out
          rw [if_pos hkl, List.drop_eq_getElem_cons hlt] at h
          rw [← h]; simp)
        have HNO := Lib.hid (show (44 : UInt8) ∉ now ++ [s[k]] from fun hm => by
          rcases List.mem_append.1 hm with hm | hm
          · exact HN.out hm
          · exact hsk (List.mem_singleton.1 hm).symm)
        obtain ⟨c, hc⟩ : ∃ c, s[k] = c := ⟨_, rfl⟩
        rw [hc] at hsl2 HF HNO
        clear hsk hc
        go_wp2
        go_roundw
        case rel => exact ⟨k + 1, out, now ++ [c], by go_num, by omega, by simp, HO.out, HNO.out, by simp; omega, by omega, by rw [if_pos (by omega)]; exact HF.out, HB.out⟩
        case measure => simp [intOf]; omega
    · have hgt : (s.length : Int) < (k : Int) := by omega
      have h := HOU.out
      rw [if_neg hkl] at h
      subst h
      have hf := HO.out
      have HF := Lib.hid hf
      obtain ⟨ao, cap', h1, _⟩ := hf.shape
      subst h1
      clear hf
      go_wp2
      go_ret
      exact ⟨_, rfl, HF.out, HB.out⟩
end Go.Proofs.YtcfihoniocamaaaGreatDoor
namespace Go.Proofs.YtcfihoniocamaaaGreatDoor
open Go.RowKit Go.Sort Go.Shelf
set_option linter.unusedVariables false

set_option maxHeartbeats 800000 in
theorem refHas (u : Value) (L : List (List UInt8)) (s : List UInt8) (W : World) (hr : Reads W u L) :
    Calls Tryz.prog 38 #[u, .string (S s)] W fun e w' => e = .returned (.bool (decide (s ∈ L))) ∧ w' = W := by
  obtain ⟨ao, cap, rfl, hc1, hc2, hcell⟩ := hr
  have hmx : maxLen = 9223372036854775807 := rfl
  rw [hmx] at hc2
  have HC := Lib.hid hcell
  have HY := Lib.hid (fun (h : s ∈ L) => (show decide (s ∈ L) = true from decide_eq_true h))
  have HN := Lib.hid (fun (h : ∀ j (hj : j < L.length), L[j] ≠ s) => (show decide (s ∈ L) = false from decide_eq_false (fun hm => by
    obtain ⟨j, hj, e⟩ := List.getElem_of_mem hm
    exact h j hj e)))
  have HM := Lib.hid (fun (j : Nat) (hj : j < L.length) => List.getElem_mem hj)
  obtain ⟨r, hr⟩ : ∃ r, decide (s ∈ L) = r := ⟨_, rfl⟩
  rw [hr] at HY HN ⊢
  clear hcell hmx hr
  go_enter Tryz.func38, Tryz.ntmps38
  go_wp2
  go_loop [9] (fun iv => ∃ i : Nat, iv = .int .i64 i ∧ i ≤ L.length ∧ (∀ j (hj : j < L.length), j < i → L[j] ≠ s)) (fun iv => L.length - (intOf iv).toNat)
  case atStart => exact ⟨0, rfl, Nat.zero_le _, fun j _ h => by omega⟩
  case round =>
    obtain ⟨i, rfl, hi, hall⟩ := hrel
    have HA := Lib.hid hall
    clear hall
    by_cases hlt : i < L.length
    · obtain ⟨b, off, rfl, hb, hcl⟩ := HC.out (by omega)
      have e1 := hcl i hlt
      have hmem := HM.out i hlt
      have HAN := Lib.hid (show L[i] ≠ s → ∀ j (hj : j < L.length), j < i + 1 → L[j] ≠ s from fun h j hj hji => by
        by_cases e : j = i
        · subst e; exact h
        · exact HA.out j hj (by omega))
      obtain ⟨x, hx⟩ : ∃ x, L[i] = x := ⟨_, rfl⟩
      rw [hx] at e1 hmem HAN
      clear hcl hx
      by_cases hxs : x = s
      · subst hxs
        have hr := HY.out hmem
        subst hr
        clear hmem
        go_wp2
        go_ret
        exact ⟨rfl, rfl⟩
      · have hb2 : (x == s) = false := by simpa using hxs
        have HAA := Lib.hid (HAN.out hxs)
        clear hmem hxs
        go_wp2
        go_round
        case rel => exact ⟨i + 1, by go_num, by omega, HAA.out⟩
        case measure => simp [intOf]; omega
    · obtain rfl : i = L.length := by omega
      have hr := HN.out (fun j hj => HA.out j hj hj)
      subst hr
      go_wp2
      go_ret
      exact ⟨rfl, rfl⟩
theorem fixed_reads (W : World) {W' : World} (hb : Below (W.heap.size + 1) (W.alloc (.cells #[.string (S [99, 111, 110, 110, 101, 99, 116, 105, 111, 110]), .string (S [107, 101, 101, 112, 45, 97, 108, 105, 118, 101]), .string (S [112, 114, 111, 120, 121, 45, 99, 111, 110, 110, 101, 99, 116, 105, 111, 110]), .string (S [116, 101]), .string (S [116, 114, 97, 105, 108, 101, 114]), .string (S [116, 114, 97, 110, 115, 102, 101, 114, 45, 101, 110, 99, 111, 100, 105, 110, 103]), .string (S [117, 112, 103, 114, 97, 100, 101]), .string (S [99, 111, 110, 116, 101, 110, 116, 45, 108, 101, 110, 103, 116, 104])] 9)) W') : Reads W' (.slice (some ⟨W.heap.size, 0, none⟩) 8 8) fixed8 :=
  ⟨_, 8, rfl, Nat.le_refl _, by decide, fun _ => ⟨W.heap.size, 0, rfl, by have := hb.size; simp at this; omega, fun j hj => by
    rw [hb.cell (p := ⟨W.heap.size, 0 + j, none⟩) (Nat.lt_succ_self _), Nat.zero_add]
    exact fixed_cells W j hj⟩⟩

set_option maxHeartbeats 800000 in
set_option maxRecDepth 100000 in
theorem refAlone (u : Value) (L : List (List UInt8)) (n : List UInt8) (hn : n.length ≤ 1000000) (w : World) (hr : Reads w u L) :
    Calls Tryz.prog 41 #[u, .string (S n)] w fun e w' => e = .returned (.bool (aloneB L n)) ∧ Below w.heap.size w w' := by
  have LO := Lib.hid (fun W => refLower n (by omega) W)
  unfold aloneB
  obtain ⟨ln, hln⟩ : ∃ q, lower n = q := ⟨_, rfl⟩
  rw [hln] at LO ⊢
  have H1 := Lib.hid (fun u2 W (h : Reads W u2 fixed8) => refHas u2 fixed8 ln W h)
  have H2 := Lib.hid (fun W (hb : Below w.heap.size w W) => refHas u L ln W (hr.below hb))
  obtain ⟨a, ha⟩ : ∃ q, decide (ln ∈ fixed8) = q := ⟨_, rfl⟩
  obtain ⟨b, hb⟩ : ∃ q, decide (ln ∈ L) = q := ⟨_, rfl⟩
  rw [ha] at H1 ⊢
  rw [hb] at H2 ⊢
  obtain ⟨ao, cap, rfl, _⟩ := hr
  have FR := Lib.hid (fun W => fixed_reads W (W' := _) (Below.refl _ _))
  clear hln ha hb
  cases a with
  | true =>
    go_enter Tryz.func41, Tryz.ntmps41
    go_wp2_with (first
      | (go_at_call 60; refine Calls.mono (LO.out _) ?_; rintro e w1 ⟨rfl, hb1⟩; have hz1 := hb1.size)
      | (go_at_call 38; refine Calls.mono (H1.out _ _ (FR.out w1)) ?_; rintro e w' ⟨rfl, hw'⟩; obtain rfl := hw'.symm)
      | fail)
    go_ret
    exact ⟨rfl, by (repeat (first | (with_reducible exact Below.refl _ _) | (with_reducible assumption) | (with_reducible refine Below.drew ?_) | (focus ((with_reducible refine Below.setCell ?_ ?_ _); rotate_left; (first | omega | (simp <;> omega)))) | (focus ((with_reducible refine Below.alloc ?_ ?_ _); rotate_left; (first | omega | (simp <;> omega)))) | exact Below.refl _ _ | assumption | refine Below.drew ?_ | refine Below.alloc ?_ (by first | omega | (simp <;> omega)) _ | refine Below.setCell ?_ (by first | omega | (simp <;> omega)) _))⟩
  | false =>
    go_enter Tryz.func41, Tryz.ntmps41
    go_wp2_with (first
      | (go_at_call 60; refine Calls.mono (LO.out _) ?_; rintro e w1 ⟨rfl, hb1⟩; have hz1 := hb1.size)
      | (go_at_call 38; refine Calls.mono (H1.out _ _ (FR.out w1)) ?_; rintro e w' ⟨rfl, hw'⟩; obtain rfl := hw'.symm)
      | (go_at_call 38; refine Calls.mono (H2.out _ (by (repeat (first | (with_reducible exact Below.refl _ _) | (with_reducible assumption) | (with_reducible refine Below.drew ?_) | (focus ((with_reducible refine Below.setCell ?_ ?_ _); rotate_left; (first | omega | (simp <;> omega)))) | (focus ((with_reducible refine Below.alloc ?_ ?_ _); rotate_left; (first | omega | (simp <;> omega)))) | exact Below.refl _ _ | assumption | refine Below.drew ?_ | refine Below.alloc ?_ (by first | omega | (simp <;> omega)) _ | refine Below.setCell ?_ (by first | omega | (simp <;> omega)) _)))) ?_; rintro e w' ⟨rfl, hw'⟩; obtain rfl := hw'.symm)
      | fail)
    go_ret
    exact ⟨by simp, by (repeat (first | (with_reducible exact Below.refl _ _) | (with_reducible assumption) | (with_reducible refine Below.drew ?_) | (focus ((with_reducible refine Below.setCell ?_ ?_ _); rotate_left; (first | omega | (simp <;> omega)))) | (focus ((with_reducible refine Below.alloc ?_ ?_ _); rotate_left; (first | omega | (simp <;> omega)))) | exact Below.refl _ _ | assumption | refine Below.drew ?_ | refine Below.alloc ?_ (by first | omega | (simp <;> omega)) _ | refine Below.setCell ?_ (by first | omega | (simp <;> omega)) _))⟩

theorem alive_strip : rightL [([67, 111, 110, 110, 101, 99, 116, 105, 111, 110], [120]), ([88], [49]), ([89], [50])] = true ∧ stripL [([67, 111, 110, 110, 101, 99, 116, 105, 111, 110], [120]), ([88], [49]), ([89], [50])] = [([89], [50])] := by decide +kernel
theorem alive_row (W : World) : ReadsF (W.alloc (.cells #[.string (S [67, 111, 110, 110, 101, 99, 116, 105, 111, 110]), .string (S [120]), .string (S [88]), .string (S [49]), .string (S [89]), .string (S [50])] 54)) (.slice (some ⟨W.heap.size, 0, none⟩) 3 3) [([67, 111, 110, 110, 101, 99, 116, 105, 111, 110], [120]), ([88], [49]), ([89], [50])] :=
  ⟨_, 3, rfl, Nat.le_refl _, by decide, (fun h => by cases h), fun _ => ⟨W.heap.size, 0, rfl, by simp, fun j hj => by
    have h3 : j < 3 := hj
    rw [World.cell?_alloc_new, World.cell?_alloc_new]
    match j, h3 with
    | 0, _ | 1, _ | 2, _ => exact ⟨rfl, rfl⟩⟩⟩

set_option maxHeartbeats 800000 in
set_option maxRecDepth 100000 in
theorem hop_alive (w : World) (hM : ∃ m, w.cell? ⟨0, 0, none⟩ = some (.int .i64 m)) : Calls Tryz.prog 9 #[] w fun e w' => e = .returned (.bool true) ∧ Below w.heap.size w w' := by
  have hb0 : Below w.heap.size w (w.alloc (.cells #[.string (S [67, 111, 110, 110, 101, 99, 116, 105, 111, 110]), .string (S [120]), .string (S [88]), .string (S [49]), .string (S [89]), .string (S [50])] 54)) := by (repeat (first | (with_reducible exact Below.refl _ _) | (with_reducible assumption) | (with_reducible refine Below.drew ?_) | (focus ((with_reducible refine Below.setCell ?_ ?_ _); rotate_left; (first | omega | (simp <;> omega)))) | (focus ((with_reducible refine Below.alloc ?_ ?_ _); rotate_left; (first | omega | (simp <;> omega)))) | exact Below.refl _ _ | assumption | refine Below.drew ?_ | refine Below.alloc ?_ (by first | omega | (simp <;> omega)) _ | refine Below.setCell ?_ (by first | omega | (simp <;> omega)) _))
  have C := hopStrip _ _ _ (alive_row w) ⟨by decide, by decide⟩ (by obtain ⟨m, hm⟩ := hM; exact ⟨m, (hb0.cell (p := ⟨0, 0, none⟩) (block_lt_of_cell hm)).trans hm⟩)
  unfold stripE stripV at C
  rw [alive_strip.1, if_pos rfl, if_pos rfl, alive_strip.2] at C
  have C := Lib.hid C
  clear hM
  go_enter Tryz.func9, Tryz.ntmps9
  go_wp2_with fail
  refine Calls.mono C.out ?_
  rintro e w1 ⟨v, rfl, hown, hb1⟩
  have hB1 : Below w.heap.size w w1 := Below.trans hb0 (hb1.mono (by simp))
  obtain ⟨ao, cap, rfl, hc1, hc2, _, hcell⟩ := hown.reads
  have hm : maxLen = 9223372036854775807 := rfl
  rw [hm] at hc2
  obtain ⟨b, off, rfl, hb, hcl⟩ := hcell (by decide)
  obtain ⟨e1, e2⟩ := hcl 0 (by decide)
  simp only [List.getElem_cons_zero, Nat.zero_mul, Nat.add_zero, List.length_cons, List.length_nil, Nat.zero_add] at e1 e2 hc1 ⊢
  clear hcl hcell hown
  go_wp2
  go_ret
  exact ⟨ret_bool (by simp), hB1⟩
end Go.Proofs.YtcfihoniocamaaaGreatDoor
