/- A path's steps that stay or go back, taken out: in plain words. -/
import Derived.Test.YtpglgembgpoeiaaDoorStrs
namespace Go.Proofs.YtpglgembgpoeiaaDoor

/-- What is done at one step, of the path that is left and what was put out. -/
def cStep (p out : List UInt8) : List UInt8 × List UInt8 :=
  if Lib.hasPrefix p [46, 46, 47] then (p.drop 3, out)
  else if Lib.hasPrefix p [46, 47] then (p.drop 2, out)
  else if Lib.hasPrefix p [47, 46, 47] then (p.drop 2, out)
  else if p == [47, 46] then ([47], out)
  else if Lib.hasPrefix p [47, 46, 46, 47] || p == [47, 46, 46] then (47 :: Lib.trimPrefix (p.drop 3) [47], out.take (max (lastL out 47) 0).toNat)
  else if p == [46] || p == [46, 46] then ([], out)
  else (p.drop (cutAt p), out ++ p.take (cutAt p))
where
  /-- Up to the next slash. -/
  cutAt (p : List UInt8) : Nat := if Lib.indexByte (p.drop 1) 47 = -1 then p.length else (Lib.indexByte (p.drop 1) 47 + 1).toNat

def cFuel : Nat → List UInt8 → List UInt8 → List UInt8
  | 0, _, out => out
  | n + 1, p, out => if p = [] then out else cFuel n (cStep p out).1 (cStep p out).2
/-- The path, cleaned. -/
def cleanFrom (p out : List UInt8) : List UInt8 := cFuel p.length p out
def cleanL (p : List UInt8) : List UInt8 := cleanFrom p []

theorem hasPrefix_len {p q : List UInt8} (h : Lib.hasPrefix p q = true) : q.length ≤ p.length := by
  unfold Lib.hasPrefix at h
  rw [List.isPrefixOf_iff_prefix] at h
  exact h.length_le
theorem cutAt_lo {p : List UInt8} (h : p ≠ []) : 1 ≤ cStep.cutAt p ∧ cStep.cutAt p ≤ p.length := by
  have hp : 0 < p.length := List.length_pos_iff.2 h
  unfold cStep.cutAt
  split
  · omega
  · rename_i hn
    have := Lib.indexByte_ge (p.drop 1) 47
    obtain ⟨i, hi⟩ : ∃ i : Nat, Lib.indexByte (p.drop 1) 47 = i := ⟨(Lib.indexByte (p.drop 1) 47).toNat, by omega⟩
    obtain ⟨h1, _⟩ := Lib.indexByte_some hi
    have := (List.getElem?_eq_some_iff.1 h1).1
    simp at this
    rw [hi]; omega
theorem cStep_lt (p out : List UInt8) (h : p ≠ []) : (cStep p out).1.length < p.length := by
  have hp : 0 < p.length := List.length_pos_iff.2 h
  unfold cStep
  split
  · rename_i h1; have := hasPrefix_len h1; simp; omega
  split
  · rename_i h1; have := hasPrefix_len h1; simp; omega
  split
  · rename_i h1; have := hasPrefix_len h1; simp at this; simp; omega
  split
  · rename_i h1; have h2 : p = [47, 46] := by simpa using h1
    rw [h2]; simp
  split
  · rename_i h1
    simp only [Bool.or_eq_true] at h1
    have h3 : 3 ≤ p.length := by
      rcases h1 with h1 | h1
      · have := hasPrefix_len h1; simp at this; omega
      · have h2 : p = [47, 46, 46] := by simpa using h1
        rw [h2]; simp
    have h4 : (Lib.trimPrefix (p.drop 3) [47]).length ≤ (p.drop 3).length := by unfold Lib.trimPrefix; split <;> simp <;> omega
    simp at h4 ⊢; omega
  split
  · simpa using hp
  · have := cutAt_lo h; simp; omega
theorem cStep_out (p out : List UInt8) (h : p ≠ []) : (cStep p out).1.length + (cStep p out).2.length ≤ p.length + out.length := by
  have hp : 0 < p.length := List.length_pos_iff.2 h
  have h1 := cStep_lt p out h
  by_cases hc : (cStep p out).2.length ≤ out.length
  · omega
  · unfold cStep at h1 hc ⊢
    repeat' (split at hc <;> simp_all <;> try omega)
    all_goals (try omega)
    all_goals (have := cutAt_lo h; simp_all; try omega)
theorem cFuel_more (n : Nat) : ∀ (p out : List UInt8), p.length ≤ n → cFuel n p out = cFuel p.length p out := by
  induction n using Nat.strongRecOn with
  | _ n ih =>
    intro p out hn
    by_cases hp : p = []
    · subst hp; cases n <;> simp [cFuel]
    · have hpos : 0 < p.length := List.length_pos_iff.2 hp
      have hlt := cStep_lt p out hp
      obtain ⟨m, rfl⟩ : ∃ m, n = m + 1 := ⟨n - 1, by omega⟩
      obtain ⟨k, hk⟩ : ∃ k, p.length = k + 1 := ⟨p.length - 1, by omega⟩
      rw [hk]
      simp only [cFuel, if_neg hp]
      rw [ih m (by omega) _ _ (by omega)]
      by_cases hmk : k = m
      · subst hmk; rw [ih k (by omega) _ _ (by omega)]
      · rw [ih k (by omega) _ _ (by omega)]
theorem cleanFrom_nil (out : List UInt8) : cleanFrom [] out = out := rfl
theorem cleanFrom_step {p out p' out' : List UInt8} (h : p ≠ []) (hs : cStep p out = (p', out')) : cleanFrom p out = cleanFrom p' out' := by
  have hpos : 0 < p.length := List.length_pos_iff.2 h
  have hlt := cStep_lt p out h
  unfold cleanFrom
  obtain ⟨k, hk⟩ : ∃ k, p.length = k + 1 := ⟨p.length - 1, by omega⟩
  rw [hk]
  simp only [cFuel, if_neg h]
  rw [hs] at hlt ⊢
  exact cFuel_more _ _ _ (by omega)
end Go.Proofs.YtpglgembgpoeiaaDoor
