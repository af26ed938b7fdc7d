/- Blanks taken off a text's ends: the plain law. No program in sight. Blanks taken off a text's ends: the walks of strings.Trim at two bytes, and of the document's answer. -/
import Derived.Test.YtgjemgilanhdiaaGreatDoorRf1
import Derived.Test.YtgjemgilanhdiaaGreatDoorRf2
namespace Go.Proofs.YtgjemgilanhdiaaGreatDoor
set_option linter.unusedVariables false

def blankB (c : UInt8) : Bool := c == 32 || c == 9
def trimL (l : List UInt8) : List UInt8 := l.dropWhile blankB
def trimR (l : List UInt8) : List UInt8 := (l.reverse.dropWhile blankB).reverse
def trim (l : List UInt8) : List UInt8 := trimL (trimR l)

theorem trimL_nil : trimL [] = [] := rfl
theorem trimR_nil : trimR [] = [] := rfl
theorem trimL_blank {c : UInt8} {l : List UInt8} (h : blankB c = true) : trimL (c :: l) = trimL l := by simp [trimL, h]
theorem trimL_stay {c : UInt8} {l : List UInt8} (h : blankB c = false) : trimL (c :: l) = c :: l := by simp [trimL, h]
theorem trimR_blank {c : UInt8} {l : List UInt8} (h : blankB c = true) : trimR (l ++ [c]) = trimR l := by simp [trimR, h]
theorem trimR_stay {c : UInt8} {l : List UInt8} (h : blankB c = false) : trimR (l ++ [c]) = l ++ [c] := by simp [trimR, h]
theorem trimR_cons (c : UInt8) (l : List UInt8) : trimR (c :: l) = if trimR l = [] ∧ blankB c = true then [] else c :: trimR l := by
  unfold trimR
  rw [List.reverse_cons, List.dropWhile_append]
  by_cases h : l.reverse.dropWhile blankB = []
  · rw [h]
    cases hc : blankB c <;> simp [hc]
  · have h2 : (l.reverse.dropWhile blankB).isEmpty = false := by
      cases hx : l.reverse.dropWhile blankB with
      | nil => exact absurd hx h
      | cons a t => rfl
    simp [h, h2]
theorem trim_swap (l : List UInt8) : trimR (trimL l) = trimL (trimR l) := by
  induction l with
  | nil => rfl
  | cons c l ih =>
    cases hc : blankB c with
    | true =>
      rw [trimL_blank hc, ih, trimR_cons]
      by_cases h : trimR l = []
      · simp [h, hc]
      · rw [if_neg (by simp [h]), trimL_blank hc]
    | false =>
      rw [trimL_stay hc, trimR_cons, if_neg (by simp [hc]), trimL_stay hc]
end Go.Proofs.YtgjemgilanhdiaaGreatDoor
namespace Go.Proofs.YtgjemgilanhdiaaGreatDoor
open Go.RowKit Go.Sort Go.Shelf
set_option linter.unusedVariables false

theorem blank_set (c : UInt8) : ([32, 9] : List UInt8).contains c = blankB c := by
  cases h1 : c == 32 <;> cases h2 : c == 9 <;> simp only [blankB, List.contains, List.elem, h1, h2] <;> rfl

set_option maxHeartbeats 800000 in
theorem trimLeftA (b : Nat) (l : List UInt8) (hl : l.length ≤ 9223372036854775807) (w : World) (hc : ∀ x : UInt8, w.cell? ⟨b, x.toNat, none⟩ = some (.bool (blankB x))) :
    Calls Tryz.prog 85 #[.string (S l), .pointer (some ⟨b, 0, none⟩)] w fun e w' => e = .returned (.string (S (trimL l))) ∧ w' = w := by
  have HC := Lib.hid hc
  clear hc
  go_enter Tryz.func85, Tryz.ntmps85
  go_wp2
  simp only [mk_S]
  go_loop [0] (fun sv => ∃ t : List UInt8, sv = .string (S t) ∧ trimL t = trimL l ∧ t.length ≤ l.length) (fun sv => strLen sv)
  case atStart => exact ⟨l, rfl, rfl, Nat.le_refl _⟩
  case round =>
    obtain ⟨t, rfl, ht, htl⟩ := hrel
    have HT := Lib.hid ht
    clear ht
    cases t with
    | nil =>
      go_wp2
      go_ret
      exact ⟨by rw [← HT.out]; rfl, rfl⟩
    | cons c t =>
      have hb0 : bAt (c :: t) 0 = (c.toNat : Int) := rfl
      have hcall := fun W h => Tryz.asciiSet_contains b c (blankB c) W h
      have hcell := HC.out c
      obtain ⟨v, hv⟩ : ∃ v, blankB c = v := ⟨_, rfl⟩
      rw [hv] at hcall hcell
      have HV := Lib.hid hv
      clear hv
      cases v with
      | true =>
        go_wp2_with (go_at_call 69; refine (hcall _ (by assumption)).mono ?_; rintro e w' ⟨rfl, rfl⟩)
        go_round
        case rel => exact ⟨t, by simp, by rw [← HT.out, trimL_blank HV.out], by simp at htl; omega⟩
        case measure => simp [strLen_S]
      | false =>
        go_wp2_with (go_at_call 69; refine (hcall _ (by assumption)).mono ?_; rintro e w' ⟨rfl, rfl⟩)
        go_ret
        exact ⟨by rw [← HT.out, trimL_stay HV.out]; rfl, rfl⟩

theorem snoc_cases (l : List UInt8) : l = [] ∨ ∃ t c, l = t ++ [c] := by
  rcases List.eq_nil_or_concat l with h | ⟨t, c, h⟩
  · exact .inl h
  · exact .inr ⟨t, c, by simpa using h⟩
theorem bAt_snoc (t : List UInt8) (c : UInt8) : bAt (t ++ [c]) t.length = (c.toNat : Int) := by
  rw [bAt_eq (by simp)]; simp

set_option maxHeartbeats 800000 in
theorem trimRightA (b : Nat) (l : List UInt8) (hl : l.length ≤ 9223372036854775807) (w : World) (hc : ∀ x : UInt8, w.cell? ⟨b, x.toNat, none⟩ = some (.bool (blankB x))) :
    Calls Tryz.prog 86 #[.string (S l), .pointer (some ⟨b, 0, none⟩)] w fun e w' => e = .returned (.string (S (trimR l))) ∧ w' = w := by
  have HC := Lib.hid hc
  clear hc
  go_enter Tryz.func86, Tryz.ntmps86
  go_wp2
  simp only [mk_S]
  go_loop [0] (fun sv => ∃ t : List UInt8, sv = .string (S t) ∧ trimR t = trimR l ∧ t.length ≤ l.length) (fun sv => strLen sv)
  case atStart => exact ⟨l, rfl, rfl, Nat.le_refl _⟩
  case round =>
    obtain ⟨t, rfl, ht, htl⟩ := hrel
    have HT := Lib.hid ht
    clear ht
    rcases snoc_cases t with rfl | ⟨t, c, rfl⟩
    · go_wp2
      go_ret
      exact ⟨by rw [← HT.out]; rfl, rfl⟩
    · have hb0 := bAt_snoc t c
      have htl2 : t.length + 1 ≤ l.length := by simpa using htl
      have hcall := fun W h => Tryz.asciiSet_contains b c (blankB c) W h
      have hcell := HC.out c
      obtain ⟨v, hv⟩ : ∃ v, blankB c = v := ⟨_, rfl⟩
      rw [hv] at hcall hcell
      have HV := Lib.hid hv
      clear hv
      cases v with
      | true =>
        go_wp2_with (go_at_call 69; refine (hcall _ (by assumption)).mono ?_; rintro e w' ⟨rfl, rfl⟩)
        go_round
        case rel => exact ⟨t, by simp, by rw [← HT.out, trimR_blank HV.out], by omega⟩
        case measure => simp [strLen_S]
      | false =>
        go_wp2_with (go_at_call 69; refine (hcall _ (by assumption)).mono ?_; rintro e w' ⟨rfl, rfl⟩)
        go_ret
        exact ⟨by rw [← HT.out, trimR_stay HV.out]; rfl, rfl⟩
end Go.Proofs.YtgjemgilanhdiaaGreatDoor
