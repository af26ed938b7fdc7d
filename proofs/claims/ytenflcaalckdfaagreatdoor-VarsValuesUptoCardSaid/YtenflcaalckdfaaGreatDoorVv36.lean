/- A cookie's part, with blanks around or without: plain words. No program in sight. -/
import Derived.Test.YtenflcaalckdfaaGreatDoorVv13
namespace Go.Proofs.YtenflcaalckdfaaGreatDoor
set_option linter.unusedVariables false

theorem cut1_no {l : List UInt8} {c : UInt8} (h : c ∉ l) : cut1 l c = (l, [], false) := by
  unfold cut1
  rw [index_no _ _ h]
  simp
theorem cut1_at {a r : List UInt8} {c : UInt8} (h : c ∉ a) : cut1 (a ++ c :: r) c = (a, r, true) := by
  unfold cut1
  rw [index_at _ _ _ h]
  simp
theorem trimL_app {a r : List UInt8} {c : UInt8} (hc : blankB c = false) : trimL (a ++ c :: r) = trimL a ++ c :: r := by
  induction a with
  | nil => simp [trimL, hc]
  | cons d a ih =>
    cases hd : blankB d with
    | true => rw [List.cons_append, trimL_blank hd, trimL_blank hd, ih]
    | false => rw [List.cons_append, trimL_stay hd, trimL_stay hd]; rfl
theorem trimR_app {a r : List UInt8} {c : UInt8} (hc : blankB c = false) : trimR (a ++ c :: r) = a ++ c :: trimR r := by
  induction a with
  | nil =>
    rw [List.nil_append, trimR_cons, if_neg]
    · rfl
    · rw [hc]; simp
  | cons d a ih =>
    rw [List.cons_append, trimR_cons, if_neg, ih]
    · rfl
    · rw [ih]; simp
theorem trimR_all {a : List UInt8} : trimR a = [] → ∀ c ∈ a, blankB c = true := by
  induction a with
  | nil => intro _ c hc; cases hc
  | cons d a ih =>
    intro h c hc
    rw [trimR_cons] at h
    split at h
    · rename_i hh
      rcases List.mem_cons.1 hc with rfl | hc
      · exact hh.2
      · exact ih hh.1 c hc
    · cases h
theorem dropW_idem' (p : UInt8 → Bool) : ∀ l : List UInt8, (l.dropWhile p).dropWhile p = l.dropWhile p
  | [] => rfl
  | c :: l => by
    cases h : p c with
    | true => rw [List.dropWhile_cons_of_pos h]; exact dropW_idem' p l
    | false => rw [List.dropWhile_cons_of_neg (by simp [h])]; rw [List.dropWhile_cons_of_neg (by simp [h])]
theorem trim_of_trimL (l : List UInt8) : trim (trimL l) = trim l := by
  unfold trim
  rw [← trim_swap, ← trim_swap]
  congr 1
  exact dropW_idem' _ _
theorem trim_of_trimR (l : List UInt8) : trim (trimR l) = trim l := by
  unfold trim
  congr 1
  unfold trimR
  rw [List.reverse_reverse, dropW_idem']
theorem trim_mem {l : List UInt8} {c : UInt8} (h : c ∈ trim l) : c ∈ l := by
  unfold trim trimL trimR at h
  have h1 := (List.dropWhile_sublist _).subset h
  rw [List.mem_reverse] at h1
  have h2 := (List.dropWhile_sublist _).subset h1
  rwa [List.mem_reverse] at h2
theorem trimL_mem {l : List UInt8} {c : UInt8} (h : c ∈ trimL l) : c ∈ l := (List.dropWhile_sublist _).subset h
def cookieR (p : List UInt8) : List Fld :=
  if (cut1 p 61).2.2 = true ∧ (trim (cut1 p 61).1).isEmpty = false then [(trim (cut1 p 61).1, bareV (trim (cut1 p 61).2.1))] else []
theorem cookie_same (p : List UInt8) : cookieOf p = cookieR p := by
  unfold cookieOf cookieR
  rcases first_part p 61 with h | ⟨a, r, h1, rfl⟩
  · rw [cut1_no h, cut1_no (fun h' => h (trim_mem h'))]; simp
  · have e : trim (a ++ 61 :: r) = trimL a ++ 61 :: trimR r := by
      rw [show trim (a ++ 61 :: r) = trimL (trimR (a ++ 61 :: r)) from rfl, trimR_app (by decide), trimL_app (by decide)]
    rw [e, cut1_at (fun h' => h1 (trimL_mem h')), cut1_at h1]
    simp only [trim_of_trimL, trim_of_trimR]
end Go.Proofs.YtenflcaalckdfaaGreatDoor
