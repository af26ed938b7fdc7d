/- Blanks taken off a text's ends: the walks of strings.Trim at two bytes, and of the document's answer. -/
import Derived.Test.YtngaofoedkankaaDoorStrs
import Derived.Test.YtngaofoedkankaaDoorTrimMath
namespace Go.Proofs.YtngaofoedkankaaDoor
open Go.RowKit Go.Sort Go.Shelf
set_option linter.unusedVariables false

theorem blank_set (c : UInt8) : ([32, 9] : List UInt8).contains c = blankB c := by
  cases h1 : c == 32 <;> cases h2 : c == 9 <;> simp only [blankB, List.contains, List.elem, h1, h2] <;> rfl

set_option maxHeartbeats 800000 in
theorem trimLeftA (b : Nat) (l : List UInt8) (hl : l.length ≤ 9223372036854775807) (w : World) (hc : ∀ x : UInt8, w.cell? ⟨b, x.toNat, none⟩ = some (.bool (blankB x))) :
    Calls Tryd.prog 85 #[.string (S l), .pointer (some ⟨b, 0, none⟩)] w fun e w' => e = .returned (.string (S (trimL l))) ∧ w' = w := by
  have HC := Lib.hid hc
  clear hc
  go_enter Tryd.func85, Tryd.ntmps85
  go_wp2
  simp only [mk_S]
  go_loop [0] (fun sv => ∃ t : List UInt8, sv = .string (S t) ∧ trimL t = trimL l ∧ t.length ≤ l.length) (fun sv => strLen sv)
  case atStart => exact ⟨l, rfl, rfl, Nat.le_refl _⟩
  case round =>
    obtain ⟨t, rfl, ht, htl⟩ := hrel
    have HT := Lib.hid ht
    clear ht
    cases t with
    | nil =>
      go_wp2
      go_ret
      exact ⟨by rw [← HT.out]; rfl, rfl⟩
    | cons c t =>
      have hb0 : bAt (c :: t) 0 = (c.toNat : Int) := rfl
      have hcall := fun W h => Tryd.asciiSet_contains b c (blankB c) W h
      have hcell := HC.out c
      obtain ⟨v, hv⟩ : ∃ v, blankB c = v := ⟨_, rfl⟩
      rw [hv] at hcall hcell
      have HV := Lib.hid hv
      clear hv
      cases v with
      | true =>
        go_wp2_with (go_at_call 97; refine (hcall _ (by assumption)).mono ?_; rintro e w' ⟨rfl, rfl⟩)
        go_round
        case rel => exact ⟨t, by simp, by rw [← HT.out, trimL_blank HV.out], by simp at htl; omega⟩
        case measure => simp [strLen_S]
      | false =>
        go_wp2_with (go_at_call 97; refine (hcall _ (by assumption)).mono ?_; rintro e w' ⟨rfl, rfl⟩)
        go_ret
        exact ⟨by rw [← HT.out, trimL_stay HV.out]; rfl, rfl⟩

theorem snoc_cases (l : List UInt8) : l = [] ∨ ∃ t c, l = t ++ [c] := by
  rcases List.eq_nil_or_concat l with h | ⟨t, c, h⟩
  · exact .inl h
  · exact .inr ⟨t, c, by simpa using h⟩
theorem bAt_snoc (t : List UInt8) (c : UInt8) : bAt (t ++ [c]) t.length = (c.toNat : Int) := by
  rw [bAt_eq (by simp)]; simp

set_option maxHeartbeats 800000 in
theorem trimRightA (b : Nat) (l : List UInt8) (hl : l.length ≤ 9223372036854775807) (w : World) (hc : ∀ x : UInt8, w.cell? ⟨b, x.toNat, none⟩ = some (.bool (blankB x))) :
    Calls Tryd.prog 86 #[.string (S l), .pointer (some ⟨b, 0, none⟩)] w fun e w' => e = .returned (.string (S (trimR l))) ∧ w' = w := by
  have HC := Lib.hid hc
  clear hc
  go_enter Tryd.func86, Tryd.ntmps86
  go_wp2
  simp only [mk_S]
  go_loop [0] (fun sv => ∃ t : List UInt8, sv = .string (S t) ∧ trimR t = trimR l ∧ t.length ≤ l.length) (fun sv => strLen sv)
  case atStart => exact ⟨l, rfl, rfl, Nat.le_refl _⟩
  case round =>
    obtain ⟨t, rfl, ht, htl⟩ := hrel
    have HT := Lib.hid ht
    clear ht
    rcases snoc_cases t with rfl | ⟨t, c, rfl⟩
    · go_wp2
      go_ret
      exact ⟨by rw [← HT.out]; rfl, rfl⟩
    · have hb0 := bAt_snoc t c
      have htl2 : t.length + 1 ≤ l.length := by simpa using htl
      have hcall := fun W h => Tryd.asciiSet_contains b c (blankB c) W h
      have hcell := HC.out c
      obtain ⟨v, hv⟩ : ∃ v, blankB c = v := ⟨_, rfl⟩
      rw [hv] at hcall hcell
      have HV := Lib.hid hv
      clear hv
      cases v with
      | true =>
        go_wp2_with (go_at_call 97; refine (hcall _ (by assumption)).mono ?_; rintro e w' ⟨rfl, rfl⟩)
        go_round
        case rel => exact ⟨t, by simp, by rw [← HT.out, trimR_blank HV.out], by omega⟩
        case measure => simp [strLen_S]
      | false =>
        go_wp2_with (go_at_call 97; refine (hcall _ (by assumption)).mono ?_; rintro e w' ⟨rfl, rfl⟩)
        go_ret
        exact ⟨by rw [← HT.out, trimR_stay HV.out]; rfl, rfl⟩
end Go.Proofs.YtngaofoedkankaaDoor
