/- What a field asks of those between: plain words. -/
import Derived.Test.YtcfihoniocamaaaGreatDoorTextSplit
import Derived.Test.YtcfihoniocamaaaGreatDoorTextUnq2
import Derived.Test.YtcfihoniocamaaaGreatDoorWordRow
import Derived.Test.YtcfihoniocamaaaGreatDoorSplitGen
namespace Go.Proofs.YtcfihoniocamaaaGreatDoor
set_option linter.unusedVariables false

def valueW (s : List UInt8) : Option (List UInt8) := if unqE s = 0 then some (unqL s) else if tokenL s = true then some s else none
def wordW (p : List UInt8) : Option Wrd :=
  match splitL 59 p with
  | none => none
  | some l =>
    if 2 < l.length ∨ (l.length = 2 ∧ tokenL (l.getD 1 []) = false) then none else
    match splitL 61 (l.getD 0 []) with
    | none => none
    | some m =>
      if 2 < m.length ∨ tokenL (m.getD 0 []) = false then none else
      if m.length = 2 then (valueW (m.getD 1 [])).map fun v => (lower (m.getD 0 []), v, if l.length = 2 then l.getD 1 [] else [])
      else some (lower (m.getD 0 []), [], if l.length = 2 then l.getD 1 [] else [])
def readParts : List (List UInt8) → Option (List Wrd)
  | [] => some []
  | p :: r => if p.isEmpty = true then readParts r else match wordW p with
    | none => none
    | some w => (readParts r).map (w :: ·)
def readL (s : List UInt8) : Option (List Wrd) := match splitL 44 s with
  | none => none
  | some l => readParts l
theorem readParts_cons (p : List UInt8) (r : List (List UInt8)) : readParts (p :: r) = if p.isEmpty = true then readParts r else match wordW p with
    | none => none
    | some w => (readParts r).map (w :: ·) := rfl
theorem readParts_append (a b : List (List UInt8)) : readParts (a ++ b) = match readParts a with
    | none => none
    | some x => (readParts b).map (x ++ ·) := by
  induction a with
  | nil => show readParts b = (readParts b).map _; cases readParts b <;> simp
  | cons p r ih =>
    rw [List.cons_append, readParts_cons, readParts_cons]
    split
    · exact ih
    · cases wordW p with
      | none => rfl
      | some w =>
        simp only
        rw [ih]
        cases readParts r with
        | none => rfl
        | some x => cases readParts b <;> simp
theorem parts_t2 (b : UInt8) (part : List UInt8) (c d : UInt8) (s : List UInt8) : parts b true part (c :: d :: s) = if c = 34 then parts b false (part ++ [c]) (d :: s) else if c = 92 then parts b true (part ++ [c, d]) s else parts b true (part ++ [c]) (d :: s) := by
  conv => lhs; unfold parts
theorem parts_f (b : UInt8) (part : List UInt8) (c : UInt8) (s : List UInt8) : parts b false part (c :: s) = if c = 34 then parts b true (part ++ [c]) s else if c = b then (parts b false [] s).map (part :: ·) else parts b false (part ++ [c]) s := by
  conv => lhs; unfold parts
/-- A text whose quotes end, the parting byte, and another one. -/
theorem parts_two {b : UInt8} (hb : b ≠ 34) (t : List UInt8) : ∀ (n : Nat) (q : Bool) (part s : List UInt8) (xs : List (List UInt8)), s.length = n → parts b q part s = some xs → parts b q part (s ++ b :: t) = (parts b false [] t).map (xs ++ ·) := by
  intro n
  induction n using Nat.strongRecOn with
  | ind n ih =>
    intro q part s xs hn h
    match q, s with
    | false, [] =>
      simp only [parts, Option.some.injEq] at h
      subst h
      show parts b false part (b :: t) = _
      rw [parts, if_neg hb, if_pos rfl]
      cases parts b false [] t <;> simp
    | true, [] => simp [parts] at h
    | false, c :: s =>
      rw [List.cons_append]
      rw [parts] at h ⊢
      simp only [List.length_cons] at hn
      split
      · rename_i hc
        rw [if_pos hc] at h
        exact ih s.length (by omega) _ _ _ _ rfl h
      · rename_i hc
        rw [if_neg hc] at h
        split
        · rename_i hc2
          rw [if_pos hc2] at h
          obtain ⟨ys, hy, rfl⟩ := Option.map_eq_some_iff.1 h
          rw [ih s.length (by omega) _ _ _ _ rfl hy, Option.map_map]
          rfl
        · rename_i hc2
          rw [if_neg hc2] at h
          exact ih s.length (by omega) _ _ _ _ rfl h
    | true, [c] =>
      simp only [parts] at h
      split at h
      · rename_i hc
        injection h with h
        subst h hc
        show parts b true part (34 :: (b :: t)) = _
        rw [parts_quote]
        have := ih 0 (by simp at hn; omega) false (part ++ [34]) [] [part ++ [34]] rfl (by simp [parts])
        exact this
      · cases h
    | true, c :: d :: s =>
      simp only [List.cons_append]
      simp only [List.length_cons] at hn
      rw [parts] at h ⊢
      split
      · rename_i hc
        rw [if_pos hc] at h
        exact ih (d :: s).length (by simp; omega) _ _ _ _ rfl h
      · rename_i hc
        rw [if_neg hc] at h
        split
        · rename_i hc2
          rw [if_pos hc2] at h
          exact ih s.length (by omega) _ _ _ _ rfl h
        · rename_i hc2
          rw [if_neg hc2] at h
          exact ih (d :: s).length (by simp; omega) _ _ _ _ rfl h
/-- A byte more in the part that is begun. -/
theorem parts_pre {b : UInt8} (s : List UInt8) : ∀ (n : Nat) (q : Bool) (x part : List UInt8), s.length = n → parts b q (x ++ part) s = (parts b q part s).map (fun l => match l with
    | [] => []
    | p :: r => (x ++ p) :: r) := by
  intro n
  induction n using Nat.strongRecOn generalizing s with
  | ind n ih =>
    intro q x part hn
    match q, s with
    | false, [] => simp [parts]
    | true, [] => simp [parts]
    | false, c :: s =>
      simp only [List.length_cons] at hn
      rw [parts_f, parts_f]
      split
      · rw [List.append_assoc]; exact ih s.length (by omega) s _ _ _ rfl
      · split
        · cases parts b false [] s <;> rfl
        · rw [List.append_assoc]; exact ih s.length (by omega) s _ _ _ rfl
    | true, [c] =>
      simp only [parts]
      split
      · simp
      · rfl
    | true, c :: d :: s =>
      simp only [List.length_cons] at hn
      rw [parts_t2, parts_t2]
      split
      · rw [List.append_assoc]; exact ih (d :: s).length (by simp; omega) (d :: s) _ _ _ rfl
      · split
        · rw [List.append_assoc]; exact ih s.length (by omega) s _ _ _ rfl
        · rw [List.append_assoc]; exact ih (d :: s).length (by simp; omega) (d :: s) _ _ _ rfl
theorem parts_ne {b : UInt8} (s : List UInt8) : ∀ (n : Nat) (q : Bool) (part : List UInt8) (xs : List (List UInt8)), s.length = n → parts b q part s = some xs → xs ≠ [] := by
  intro n
  induction n using Nat.strongRecOn generalizing s with
  | ind n ih =>
    intro q part xs hn h
    match q, s with
    | false, [] => simp only [parts, Option.some.injEq] at h; subst h; simp
    | true, [] => simp [parts] at h
    | false, c :: s =>
      simp only [List.length_cons] at hn
      rw [parts] at h
      split at h
      · exact ih s.length (by omega) s _ _ _ rfl h
      · split at h
        · obtain ⟨ys, _, rfl⟩ := Option.map_eq_some_iff.1 h; simp
        · exact ih s.length (by omega) s _ _ _ rfl h
    | true, [c] =>
      simp only [parts] at h
      split at h
      · injection h with h; subst h; simp
      · cases h
    | true, c :: d :: s =>
      simp only [List.length_cons] at hn
      rw [parts] at h
      split at h
      · exact ih (d :: s).length (by simp; omega) (d :: s) _ _ _ rfl h
      · split at h
        · exact ih s.length (by omega) s _ _ _ rfl h
        · exact ih (d :: s).length (by simp; omega) (d :: s) _ _ _ rfl h
/-- A blank behind a text whose quotes end. -/
theorem parts_blank {b : UInt8} (hb : b ≠ 32) : ∀ (n : Nat) (q : Bool) (part s : List UInt8) (xs : List (List UInt8)), s.length = n → parts b q part s = some xs → ∃ ys, parts b q part (s ++ [32]) = some ys ∧ ys.map trim = xs.map trim := by
  intro n
  induction n using Nat.strongRecOn with
  | ind n ih =>
    intro q part s xs hn h
    have h32 : (32 : UInt8) ≠ 34 := by decide
    match q, s with
    | false, [] =>
      simp only [parts, Option.some.injEq] at h
      subst h
      refine ⟨[part ++ [32]], ?_, ?_⟩
      · show parts b false part [32] = _
        rw [parts, if_neg h32, if_neg (Ne.symm hb)]; simp [parts]
      · simp only [List.map_cons, List.map_nil]
        congr 1
        unfold trim
        rw [trimR_blank (by decide)]
    | true, [] => simp [parts] at h
    | false, c :: s =>
      rw [List.cons_append]
      rw [parts] at h ⊢
      simp only [List.length_cons] at hn
      split
      · rename_i hc
        rw [if_pos hc] at h
        exact ih s.length (by omega) _ _ _ _ rfl h
      · rename_i hc
        rw [if_neg hc] at h
        split
        · rename_i hc2
          rw [if_pos hc2] at h
          obtain ⟨ys, hy, rfl⟩ := Option.map_eq_some_iff.1 h
          obtain ⟨zs, hz, he⟩ := ih s.length (by omega) _ _ _ _ rfl hy
          rw [hz]
          exact ⟨part :: zs, rfl, by simp [he]⟩
        · rename_i hc2
          rw [if_neg hc2] at h
          exact ih s.length (by omega) _ _ _ _ rfl h
    | true, [c] =>
      simp only [parts] at h
      split at h
      · rename_i hc
        injection h with h
        subst h hc
        show ∃ ys, parts b true part (34 :: [32]) = some ys ∧ _
        rw [parts_quote]
        exact ih 0 (by simp at hn; omega) false (part ++ [34]) [] [part ++ [34]] rfl (by simp [parts])
      · cases h
    | true, c :: d :: s =>
      simp only [List.cons_append]
      simp only [List.length_cons] at hn
      rw [parts] at h ⊢
      split
      · rename_i hc
        rw [if_pos hc] at h
        exact ih (d :: s).length (by simp; omega) _ _ _ _ rfl h
      · rename_i hc
        rw [if_neg hc] at h
        split
        · rename_i hc2
          rw [if_pos hc2] at h
          exact ih s.length (by omega) _ _ _ _ rfl h
        · rename_i hc2
          rw [if_neg hc2] at h
          exact ih (d :: s).length (by simp; omega) _ _ _ _ rfl h
theorem trim_lead (x : List UInt8) : trim (32 :: x) = trim x := by
  unfold trim
  rw [← trim_swap, trimL_blank (by decide), trim_swap]
theorem split_lead {b : UInt8} (hb : b ≠ 32) (s : List UInt8) : splitL b (32 :: s) = splitL b s := by
  unfold splitL
  split
  · rfl
  · have e : parts b false [] (32 :: s) = parts b false [32] s := by
      rw [parts, if_neg (by decide), if_neg (Ne.symm hb)]; rfl
    rw [e, show ([32] : List UInt8) = [32] ++ [] from rfl, parts_pre s _ false [32] [] rfl]
    cases h : parts b false [] s with
    | none => rfl
    | some l =>
      cases l with
      | nil => rfl
      | cons p r => simp [trim_lead]
/-- Two fields with ' ,' between. -/
theorem split_mid {b : UInt8} (h1 : b ≠ 34) (h2 : b ≠ 92) (h3 : b ≠ 32) {s t : List UInt8} {xs : List (List UInt8)} (h : splitL b s = some xs) : splitL b (s ++ 32 :: b :: t) = (splitL b t).map (xs ++ ·) := by
  have hne : ¬ (b = 34 ∨ b = 92) := by simp [h1, h2]
  unfold splitL at h ⊢
  rw [if_neg hne] at h ⊢
  obtain ⟨ps, hp, rfl⟩ := Option.map_eq_some_iff.1 h
  obtain ⟨ys, hy, hyt⟩ := parts_blank h3 _ false [] s ps rfl hp
  have e : s ++ 32 :: b :: t = (s ++ [32]) ++ b :: t := by simp
  rw [e, parts_two h1 t _ false [] (s ++ [32]) ys rfl hy, if_neg hne, Option.map_map, Option.map_map]
  congr 1
  funext l
  simp [hyt]
theorem split_two {b : UInt8} (h1 : b ≠ 34) (h2 : b ≠ 92) (h3 : b ≠ 32) {s t : List UInt8} {xs : List (List UInt8)} (h : splitL b s = some xs) : splitL b (s ++ 32 :: b :: 32 :: t) = (splitL b t).map (xs ++ ·) := by
  rw [split_mid h1 h2 h3 h, split_lead h3]
theorem read_two {s t : List UInt8} {x y : List Wrd} (h1 : readL s = some x) (h2 : readL t = some y) : readL (s ++ 32 :: 44 :: 32 :: t) = some (x ++ y) := by
  unfold readL at *
  cases hs : splitL 44 s with
  | none => rw [hs] at h1; cases h1
  | some xs =>
    rw [hs] at h1
    cases ht : splitL 44 t with
    | none => rw [ht] at h2; cases h2
    | some ys =>
      rw [ht] at h2
      rw [split_two (by decide) (by decide) (by decide) hs, ht]
      simp only [Option.map_some] at h1 h2 ⊢
      rw [readParts_append, h1, h2]
      rfl
end Go.Proofs.YtcfihoniocamaaaGreatDoor
