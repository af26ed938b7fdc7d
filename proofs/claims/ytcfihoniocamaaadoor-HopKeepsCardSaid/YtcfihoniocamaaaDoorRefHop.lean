/- The document's words, and which names are for the next one alone: the walks. -/
import Derived.Test.YtcfihoniocamaaaDoorHopStrip
import Derived.Test.YtcfihoniocamaaaDoorTableReads
import Derived.Test.YtcfihoniocamaaaDoorTableRef3
namespace Go.Proofs.YtcfihoniocamaaaDoor
open Go.RowKit Go.Sort Go.Shelf
set_option linter.unusedVariables false

set_option maxHeartbeats 1600000 in
set_option maxRecDepth 100000 in
theorem refHopWords (v : Value) (L : List Fld) (w : World) (hr : ReadsF w v L) (hL : HopRow L) :
    Calls Tryd.prog 11 #[v] w fun e w' => ∃ v', e = .returned v' ∧ Owns w' w.heap.size v' (hopWords L) ∧ Below w.heap.size w w' := by
  have AL := Lib.hid (refAll v L connL (by decide) w hr hL.small (by have := hL.len; omega))
  unfold connL at AL
  have hxs : ∀ x ∈ (namedL L connL).map (·.2), x.length ≤ 10000 := fun x hx => by
    obtain ⟨f, hf, rfl⟩ := List.mem_map.1 hx
    have := (hL.each f (List.mem_filter.1 hf).1).2
    omega
  have hxl : ((namedL L connL).map (·.2)).length ≤ 1000 := by rw [List.length_map]; exact Nat.le_trans (List.length_filter_le _ _) (by have := hL.len; omega)
  have JO := Lib.hid (fun u W (h : Reads W u ((namedL L connL).map (·.2))) => refJoined u _ W h hxs hxl)
  have hjl := hL.joined connL
  have hjd : Lib.join ((namedL L connL).map (·.2)) [44, 32] = joinedL L connL := rfl
  unfold connL at JO
  rw [show Lib.join ((namedL L [99, 111, 110, 110, 101, 99, 116, 105, 111, 110]).map (·.2)) [44, 32] = joinedL L connL from rfl] at JO
  unfold hopWords
  obtain ⟨s, hs⟩ : ∃ s, joinedL L connL = s := ⟨_, rfl⟩
  rw [hs] at JO hjl ⊢
  obtain ⟨xs, hx⟩ : ∃ xs, (namedL L [99, 111, 110, 110, 101, 99, 116, 105, 111, 110]).map (·.2) = xs := ⟨_, rfl⟩
  rw [hx] at AL JO
  have hsl : (s.length : Int) ≤ 60000 := by omega
  have TR := Lib.hid (fun l hl W => refTrim l hl W)
  have LO := Lib.hid (fun l hl W => refLower l hl W)
  obtain ⟨R, hR⟩ : ∃ R, wordsOf s = R := ⟨_, rfl⟩
  have HR := Lib.hid hR
  rw [hR]
  clear hr hL hxs hxl hjd hs hx hR
  go_enter Tryd.func11, Tryd.ntmps11
  go_wp2_with (first
    | (go_at_call 29; refine Calls.mono AL.out ?_; rintro e w1 ⟨v1, rfl, ho1, hb1⟩; have HO1 := Lib.hid ho1; have HB1 := Lib.hid hb1; have hz1 := hb1.size; clear ho1 hb1)
    | (go_at_call 28; refine Calls.mono (JO.out _ _ (by first | exact HO1.out | exact HO1.out.reads)) ?_; rintro e w' ⟨rfl, hw'⟩; obtain rfl := hw'.symm)
    | fail)
  simp only [mk_S]
  go_loopw [4, 5, 6] (fun ov nv iv wr => ∃ (k : Nat) (out : List (List UInt8)) (now : List UInt8), iv = .int .i64 k ∧ k ≤ s.length + 1 ∧ nv = .string (S now) ∧ Owns wr w.heap.size ov out ∧ (44 : UInt8) ∉ now ∧ now.length ≤ k ∧ out.length ≤ k ∧ (if k ≤ s.length then out ++ wordsOf (now ++ s.drop k) = R else out = R) ∧ Below w.heap.size w wr) (fun _ _ iv _ => s.length + 1 - (intOf iv).toNat)
  case atStart => exact ⟨0, [], [], rfl, Nat.zero_le _, rfl, (Owns.made w1 w.heap.size hz1), by simp, Nat.le_refl _, Nat.le_refl _, by rw [if_pos (Nat.zero_le _)]; exact HR.out, by have := HB1.out; (repeat (first | (with_reducible exact Below.refl _ _) | (with_reducible assumption) | (with_reducible refine Below.drew ?_) | (focus ((with_reducible refine Below.setCell ?_ ?_ _); rotate_left; (first | omega | (simp <;> omega)))) | (focus ((with_reducible refine Below.alloc ?_ ?_ _); rotate_left; (first | omega | (simp <;> omega)))) | exact Below.refl _ _ | assumption | refine Below.drew ?_ | refine Below.alloc ?_ (by first | omega | (simp <;> omega)) _ | refine Below.setCell ?_ (by first | omega | (simp <;> omega)) _))⟩
  case round =>
    obtain ⟨k, out, now, rfl, hk, rfl, hown, hno, hnl, hol, hout, hB⟩ := hrel
    have HO := Lib.hid hown
    have HB := Lib.hid hB
    have hz := hB.size
    have HN := Lib.hid hno
    have HOU := Lib.hid hout
    clear hown hB hno hout
    by_cases hkl : k ≤ s.length
    · have hend : k = s.length ∨ (k < s.length ∧ bAt s k = 44) ∨ (k < s.length ∧ (bAt s k == 44) = false) := by
        by_cases h : k < s.length
        · by_cases h2 : bAt s k = 44
          · exact .inr (.inl ⟨h, h2⟩)
          · exact .inr (.inr ⟨h, by simpa using h2⟩)
        · exact .inl (by omega)
      have T := TR.out now (by omega)
      have htl := trim_le now
      obtain ⟨tn, htn⟩ : ∃ q, trim now = q := ⟨_, rfl⟩
      rw [htn] at T htl
      have LL := LO.out tn (by omega)
      obtain ⟨ln, hln⟩ : ∃ q, lower tn = q := ⟨_, rfl⟩
      rw [hln] at LL
      have T := Lib.hid T
      have LL := Lib.hid LL
      have HLN := Lib.hid (show lower (trim now) = ln by rw [htn, hln])
      clear htn hln
      have hki : (k : Int) ≤ (s.length : Int) := by omega
      rcases hend with rfl | ⟨hlt, h44⟩ | ⟨hlt, h44⟩
      · have HF := Lib.hid (show out ++ [ln] = R by
          have h := HOU.out
          rw [if_pos (Nat.le_refl _), List.drop_length, List.append_nil] at h
          rw [← h]
          unfold wordsOf
          rw [split_none _ _ HN.out, List.map_cons, List.map_nil, HLN.out])
        go_wp2_with (first
          | (go_at_call 30; refine Calls.mono (T.out _) ?_; rintro e w' ⟨rfl, hw'⟩; obtain rfl := hw'.symm)
          | (go_at_call 24; refine Calls.mono (LL.out _) ?_; rintro e w4 ⟨rfl, hb4⟩; have hz4 := hb4.size)
          | (at_builtin; refine wp_append_text' rfl _ _ rfl _ w.heap.size _ out ln (HO.out.below hb4) rfl _ rfl rfl (by omega) (by omega) ?_; intro v6 w6 hown6 hb6; have HO6 := Lib.hid hown6; have HB6 := Lib.hid (HB.out.trans ((hb4.mono hz).trans hb6)); clear hown6 hb6)
          | fail)
        go_roundw
        case rel => exact ⟨s.length + 1, out ++ [ln], [], by go_num, by omega, rfl, HO6.out, by simp, by simp, by simp; omega, by rw [if_neg (by omega)]; exact HF.out, HB6.out⟩
        case measure => first | (simp [intOf]; done) | (simp [intOf]; omega)
      · have hne : ((k : Int) == (s.length : Int)) = false := by simp; omega
        have hsk : s[k] = 44 := by
          rw [bAt_eq hlt] at h44
          exact UInt8.toNat.inj (by have h2 : (44 : UInt8).toNat = 44 := rfl; omega)
        have HF := Lib.hid (show (out ++ [ln]) ++ wordsOf ([] ++ s.drop (k + 1)) = R by
          have h := HOU.out
          rw [if_pos hkl, List.drop_eq_getElem_cons hlt, hsk] at h
          rw [← h, List.nil_append]
          unfold wordsOf
          rw [split_at _ _ _ HN.out, List.map_cons, HLN.out, List.append_assoc, List.singleton_append])
        clear hsk
        go_wp2_with (first
          | (go_at_call 30; refine Calls.mono (T.out _) ?_; rintro e w' ⟨rfl, hw'⟩; obtain rfl := hw'.symm)
          | (go_at_call 24; refine Calls.mono (LL.out _) ?_; rintro e w4 ⟨rfl, hb4⟩; have hz4 := hb4.size)
          | (at_builtin; refine wp_append_text' rfl _ _ rfl _ w.heap.size _ out ln (HO.out.below hb4) rfl _ rfl rfl (by omega) (by omega) ?_; intro v6 w6 hown6 hb6; have HO6 := Lib.hid hown6; have HB6 := Lib.hid (HB.out.trans ((hb4.mono hz).trans hb6)); clear hown6 hb6)
          | fail)
        go_roundw
        case rel => exact ⟨k + 1, out ++ [ln], [], by go_num, by omega, rfl, HO6.out, by simp, by simp, by simp; omega, by rw [if_pos (by omega)]; exact HF.out, HB6.out⟩
        case measure => simp [intOf]; omega
      · have hne : ((k : Int) == (s.length : Int)) = false := by simp; omega
        have hsl2 : (s.take (k + 1)).drop k = [s[k]] := by
          rw [List.take_succ_eq_append_getElem hlt, List.drop_append]
          simp [Nat.le_of_lt hlt]
        have hsk : s[k] ≠ 44 := by
          intro e
          rw [bAt_eq hlt, e] at h44
          revert h44; decide
        have HF := Lib.hid (show out ++ wordsOf ((now ++ [s[k]]) ++ s.drop (k + 1)) = R by
          have h := HOU.out
          rw [if_pos hkl, List.drop_eq_getElem_cons hlt] at h
          rw [← h]; simp)
        have HNO := Lib.hid (show (44 : UInt8) ∉ now ++ [s[k]] from fun hm => by
          rcases List.mem_append.1 hm with hm | hm
          · exact HN.out hm
          · exact hsk (List.mem_singleton.1 hm).symm)
        obtain ⟨c, hc⟩ : ∃ c, s[k] = c := ⟨_, rfl⟩
        rw [hc] at hsl2 HF HNO
        clear hsk hc
        go_wp2
        go_roundw
        case rel => exact ⟨k + 1, out, now ++ [c], by go_num, by omega, by simp, HO.out, HNO.out, by simp; omega, by omega, by rw [if_pos (by omega)]; exact HF.out, HB.out⟩
        case measure => simp [intOf]; omega
    · have hgt : (s.length : Int) < (k : Int) := by omega
      have h := HOU.out
      rw [if_neg hkl] at h
      subst h
      have hf := HO.out
      have HF := Lib.hid hf
      obtain ⟨ao, cap', h1, _⟩ := hf.shape
      subst h1
      clear hf
      go_wp2
      go_ret
      exact ⟨_, rfl, HF.out, HB.out⟩
end Go.Proofs.YtcfihoniocamaaaDoor
