/- What a field asks: bounds, and one part more: plain words. -/
import Derived.Test.YtcfihoniocamaaaGreatDoorSurMath
namespace Go.Proofs.YtcfihoniocamaaaGreatDoor
set_option linter.unusedVariables false

theorem parts_bound {b : UInt8} (s : List UInt8) : ∀ (n : Nat) (q : Bool) (part : List UInt8) (xs : List (List UInt8)), s.length = n → parts b q part s = some xs → (∀ x ∈ xs, x.length ≤ part.length + s.length) ∧ xs.length ≤ s.length + 1 := by
  intro n
  induction n using Nat.strongRecOn generalizing s with
  | ind n ih =>
    intro q part xs hn h
    match q, s with
    | false, [] =>
      simp only [parts, Option.some.injEq] at h
      subst h
      simp
    | true, [] => simp [parts] at h
    | false, c :: s =>
      simp only [List.length_cons] at hn
      rw [parts_f] at h
      split at h
      · obtain ⟨h1, h2⟩ := ih s.length (by omega) s _ _ _ rfl h
        refine ⟨fun x hx => ?_, by simp only [List.length_cons]; omega⟩
        have := h1 x hx
        simp only [List.length_append, List.length_cons, List.length_nil] at this ⊢; omega
      · split at h
        · obtain ⟨ys, hy, rfl⟩ := Option.map_eq_some_iff.1 h
          obtain ⟨h1, h2⟩ := ih s.length (by omega) s _ _ _ rfl hy
          refine ⟨fun x hx => ?_, by simp only [List.length_cons]; omega⟩
          rcases List.mem_cons.1 hx with rfl | hx
          · simp only [List.length_cons]; omega
          · have := h1 x hx
            simp only [List.length_cons, List.length_nil] at this ⊢; omega
        · obtain ⟨h1, h2⟩ := ih s.length (by omega) s _ _ _ rfl h
          refine ⟨fun x hx => ?_, by simp only [List.length_cons]; omega⟩
          have := h1 x hx
          simp only [List.length_append, List.length_cons, List.length_nil] at this ⊢; omega
    | true, [c] =>
      simp only [parts] at h
      split at h
      · injection h with h; subst h; simp
      · cases h
    | true, c :: d :: s =>
      simp only [List.length_cons] at hn
      rw [parts_t2] at h
      split at h
      · obtain ⟨h1, h2⟩ := ih (d :: s).length (by simp; omega) (d :: s) _ _ _ rfl h
        refine ⟨fun x hx => ?_, by simp only [List.length_cons] at h2 ⊢; omega⟩
        have := h1 x hx
        simp only [List.length_append, List.length_cons, List.length_nil] at this ⊢; omega
      · split at h
        · obtain ⟨h1, h2⟩ := ih s.length (by omega) s _ _ _ rfl h
          refine ⟨fun x hx => ?_, by simp only [List.length_cons]; omega⟩
          have := h1 x hx
          simp only [List.length_append, List.length_cons, List.length_nil] at this ⊢; omega
        · obtain ⟨h1, h2⟩ := ih (d :: s).length (by simp; omega) (d :: s) _ _ _ rfl h
          refine ⟨fun x hx => ?_, by simp only [List.length_cons] at h2 ⊢; omega⟩
          have := h1 x hx
          simp only [List.length_append, List.length_cons, List.length_nil] at this ⊢; omega
theorem trim_short (l : List UInt8) : (trim l).length ≤ l.length := by
  unfold trim trimL trimR
  refine Nat.le_trans (List.dropWhile_sublist _).length_le ?_
  rw [List.length_reverse]
  refine Nat.le_trans (List.dropWhile_sublist _).length_le ?_
  rw [List.length_reverse]
  exact Nat.le_refl _
theorem split_bound {b : UInt8} {s : List UInt8} {L : List (List UInt8)} (h : splitL b s = some L) : (∀ x ∈ L, x.length ≤ s.length) ∧ L.length ≤ s.length + 1 ∧ L ≠ [] := by
  unfold splitL at h
  split at h
  · cases h
  · obtain ⟨ps, hp, rfl⟩ := Option.map_eq_some_iff.1 h
    obtain ⟨h1, h2⟩ := parts_bound s _ false [] ps rfl hp
    refine ⟨fun x hx => ?_, by simpa using h2, by simpa using parts_ne s _ false [] ps rfl hp⟩
    obtain ⟨y, hy, rfl⟩ := List.mem_map.1 hx
    have := h1 y hy
    have := trim_short y
    simp only [List.length_nil] at *
    omega

theorem read_snoc (L : List (List UInt8)) (p : List UInt8) {out : List Wrd} (h : readParts L = some out) : readParts (L ++ [p]) = if p.isEmpty = true then some out else match wordW p with
    | none => none
    | some w => some (out ++ [w]) := by
  rw [readParts_append, h]
  simp only
  rw [readParts_cons]
  cases p.isEmpty with
  | true => simp [readParts]
  | false => cases wordW p <;> simp [readParts]
theorem read_stop (L M : List (List UInt8)) (h : readParts L = none) : readParts (L ++ M) = none := by
  rw [readParts_append, h]
theorem read_len (L : List (List UInt8)) : ∀ out, readParts L = some out → out.length ≤ L.length := by
  induction L with
  | nil => intro out h; simp [readParts] at h; subst h; simp
  | cons p r ih =>
    intro out h
    rw [readParts_cons] at h
    split at h
    · have := ih out h; simp only [List.length_cons]; omega
    · split at h
      · cases h
      · obtain ⟨o, ho, rfl⟩ := Option.map_eq_some_iff.1 h
        have := ih o ho
        simp only [List.length_cons]; omega
def errW : Option (List Wrd) → Int
  | none => 11
  | some _ => 0
def readE (s : List UInt8) : Int := errW (readL s)
def readV (s : List UInt8) : List Wrd := (readL s).getD []
end Go.Proofs.YtcfihoniocamaaaGreatDoor
