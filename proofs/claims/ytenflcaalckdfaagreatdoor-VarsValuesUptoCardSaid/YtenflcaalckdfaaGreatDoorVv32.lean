/- The document's end of quotes and text without its quotes: plain words. No program in sight. -/
import Derived.Test.YtenflcaalckdfaaGreatDoorVv12
namespace Go.Proofs.YtenflcaalckdfaaGreatDoor
set_option linter.unusedVariables false

def endG : Bool → List UInt8 → Option Nat
  | _, [] => none
  | true, c :: t => (endG false t).map (· + 1)
  | false, c :: t => if c = 34 then some 1 else if c = 92 then (endG true t).map (· + 1) else (endG false t).map (· + 1)
def refG : Bool → List UInt8 → Option (List UInt8)
  | false, [] => some []
  | true, [] => none
  | true, c :: t => if ctlB c = true then none else (refG false t).map (c :: ·)
  | false, c :: t => if c = 92 then refG true t else if ctlB c = true then none else (refG false t).map (c :: ·)

theorem endG_le (t : List UInt8) : ∀ b n, endG b t = some n → n ≤ t.length := by
  induction t with
  | nil => intro b n h; simp [endG] at h
  | cons c t ih =>
    intro b n h
    have key : ∀ b', (endG b' t).map (· + 1) = some n → n ≤ (c :: t).length := by
      intro b' h
      obtain ⟨m, hm, rfl⟩ := Option.map_eq_some_iff.1 h
      have := ih _ _ hm
      simp only [List.length_cons]; omega
    cases b with
    | true => exact key _ h
    | false =>
      unfold endG at h
      split at h
      · injection h with h; subst h; simp
      · split at h
        · exact key _ h
        · exact key _ h
theorem endG_whole (t : List UInt8) : ∀ b, endG b t = some t.length ↔ ∃ m, t = m ++ [34] ∧ (unqG b m).isSome = true := by
  induction t with
  | nil =>
    intro b
    constructor
    · intro h; simp [endG] at h
    · rintro ⟨m, h, _⟩; cases m <;> simp at h
  | cons c t ih =>
    intro b
    have e1 : ∀ b', ((endG b' t).map (· + 1) = some (c :: t).length ↔ endG b' t = some t.length) := by
      intro b'
      rw [List.length_cons]
      cases endG b' t <;> simp
    cases b with
    | true =>
      show (endG false t).map (· + 1) = _ ↔ _
      rw [e1, ih]
      constructor
      · rintro ⟨m, rfl, h⟩
        exact ⟨c :: m, rfl, by show ((unqG false m).map _).isSome = true; simpa using h⟩
      · rintro ⟨m, h1, h2⟩
        cases m with
        | nil => simp [unqG] at h2
        | cons d m =>
          injection h1 with h3 h4
          subst h3
          exact ⟨m, h4, by have h2 : ((unqG false m).map _).isSome = true := h2; simpa using h2⟩
    | false =>
      unfold endG
      by_cases h34 : c = 34
      · subst h34
        rw [if_pos rfl]
        constructor
        · intro h
          have : t.length = 0 := by simpa using h.symm
          obtain rfl : t = [] := List.length_eq_zero_iff.1 this
          exact ⟨[], rfl, rfl⟩
        · rintro ⟨m, h1, h2⟩
          cases m with
          | nil => injection h1 with _ h; subst h; rfl
          | cons d m =>
            injection h1 with h3 h4
            subst h3
            simp [unqG] at h2
      · rw [if_neg h34]
        by_cases h92 : c = 92
        · subst h92
          rw [if_pos rfl, e1, ih]
          constructor
          · rintro ⟨m, rfl, h⟩
            exact ⟨92 :: m, rfl, h⟩
          · rintro ⟨m, h1, h2⟩
            cases m with
            | nil => injection h1 with h3 _; exact absurd h3 (by decide)
            | cons d m =>
              injection h1 with h3 h4
              subst h3
              exact ⟨m, h4, h2⟩
        · rw [if_neg h92, e1, ih]
          constructor
          · rintro ⟨m, rfl, h⟩
            refine ⟨c :: m, rfl, ?_⟩
            unfold unqG
            rw [if_neg h34, if_neg h92]
            simpa using h
          · rintro ⟨m, h1, h2⟩
            cases m with
            | nil => injection h1 with h3 _; exact absurd h3 h34
            | cons d m =>
              injection h1 with h3 h4
              subst h3
              unfold unqG at h2
              rw [if_neg h34, if_neg h92] at h2
              exact ⟨m, h4, by simpa using h2⟩
theorem refG_unq (m : List UInt8) : ∀ b, (unqG b m).isSome = true → refG b m = if m.any ctlB = true then (if b = true ∧ m.length = 0 then none else none) else unqG b m := by
  have h92 : ctlB 92 = false := by decide
  induction m with
  | nil => intro b h; cases b <;> simp [unqG, refG] at h ⊢
  | cons c t ih =>
    intro b h
    cases b with
    | true =>
      have h : ((unqG false t).map (c :: ·)).isSome = true := h
      have h' : (unqG false t).isSome = true := by simpa using h
      have e := ih false h'
      unfold refG unqG
      cases hc : ctlB c with
      | true => simp [hc]
      | false =>
        rw [if_neg (by simp), e]
        cases ht : t.any ctlB <;> simp [hc, ht]
    | false =>
      unfold unqG at h
      split at h
      · cases h
      · rename_i h34
        split at h
        · rename_i hb
          subst hb
          have e := ih true h
          conv => lhs; unfold refG
          conv => rhs; unfold unqG
          rw [if_pos rfl, if_neg h34, if_pos rfl, e]
          cases ht : t.any ctlB <;> simp [h92, ht]
        · rename_i hb
          have h' : (unqG false t).isSome = true := by simpa using h
          have e := ih false h'
          conv => lhs; unfold refG
          conv => rhs; unfold unqG
          rw [if_neg hb, if_neg h34, if_neg hb]
          cases hc : ctlB c with
          | true => simp [hc]
          | false =>
            rw [if_neg (by simp), e]
            cases ht : t.any ctlB <;> simp [hc, ht]
theorem refG_unq' {m : List UInt8} (h : (unqG false m).isSome = true) : refG false m = if m.any ctlB = true then none else unqG false m := by
  rw [refG_unq m false h]; simp
theorem unq_ref {s : List UInt8} (h0 : bAt s 0 = 34) (hn : s ≠ []) : unqR s = if endG false (s.drop 1) = some (s.length - 1) then refG false ((s.take (s.length - 1)).drop 1) else none := by
  obtain ⟨c, t, rfl⟩ := List.exists_cons_of_ne_nil hn
  have hc : c = 34 := by have h : (c.toNat : Int) = 34 := h0; exact UInt8.toNat.inj (by have h2 : (34 : UInt8).toNat = 34 := rfl; omega)
  subst hc
  simp only [List.drop_succ_cons, List.drop_zero, List.length_cons, Nat.add_sub_cancel]
  have hm : ((34 :: t).take t.length).drop 1 = t.take (t.length - 1) := by
    cases t with
    | nil => rfl
    | cons d t => simp
  rw [hm]
  unfold unqR
  rw [show ((34 :: t : List UInt8)).length = t.length + 1 from rfl, Nat.add_sub_cancel, hm]
  by_cases he : endG false t = some t.length
  · rw [if_pos he]
    obtain ⟨m, rfl, hs⟩ := (endG_whole t false).1 he
    have e1 : (m ++ [34]).take ((m ++ [34]).length - 1) = m := by simp
    have hl : bAt (34 :: (m ++ [34])) (m ++ [34]).length = 34 := by
      show bAt (34 :: (m ++ [34])) (m ++ [34]).length = ((34 : UInt8).toNat : Int)
      rw [bAt_eq (by simp)]
      simp
    rw [e1, refG_unq' hs]
    have ha : (34 :: (m ++ [34])).any ctlB = m.any ctlB := by
      rw [List.any_cons, List.any_append]; simp [show ctlB 34 = false by decide]
    have h0' : bAt (34 :: (m ++ [34])) 0 = 34 := rfl
    simp only [hl, h0', ha, ne_eq, not_true_eq_false, false_or, show ¬ (m ++ [34]).length + 1 < 2 by simp, false_or]
  · rw [if_neg he]
    split
    · rfl
    · rename_i hx
      simp only [not_or, Decidable.not_not] at hx
      obtain ⟨h1, _, h3, _⟩ := hx
      cases hu : unqG false (t.take (t.length - 1)) with
      | none => rfl
      | some u =>
        exfalso
        apply he
        refine (endG_whole t false).2 ⟨t.take (t.length - 1), ?_, by rw [hu]; rfl⟩
        have hlt : t.length - 1 < t.length := by omega
        have h4 : t[t.length - 1] = 34 := by
          rw [bAt_eq (by simp)] at h3
          have h5 : ((34 :: t)[t.length]'(by simp)) = t[t.length - 1] := by
            rw [List.getElem_cons]
            rw [dif_neg (by omega)]
          rw [h5] at h3
          exact UInt8.toNat.inj (by have h2 : (34 : UInt8).toNat = 34 := rfl; omega)
        conv => lhs; rw [← List.take_append_drop (t.length - 1) t]
        congr 1
        rw [List.drop_eq_getElem_cons hlt, h4, List.drop_of_length_le (by omega)]
end Go.Proofs.YtenflcaalckdfaaGreatDoor
