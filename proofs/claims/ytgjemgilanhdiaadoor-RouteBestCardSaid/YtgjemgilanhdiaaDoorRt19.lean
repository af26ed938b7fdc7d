/- The document's answer for numbers: the walks of its functions, and that they say the same. -/
import Derived.Test.YtgjemgilanhdiaaDoorRt8
namespace Go.Proofs.YtgjemgilanhdiaaDoor
open Go.RowKit Go.Sort Go.Shelf
set_option linter.unusedVariables false

theorem valN_congr {v v' : Nat → Nat} {b : Nat} (h : ∀ n, n < 256 → (b ≤ v n ↔ b ≤ v' n) ∧ (v n < b → v n = v' n)) (l : List UInt8) (hb : badN v b l = false) : valN v b l = valN v' b l := by
  unfold valN
  suffices H : ∀ (l : List UInt8) (a : Nat), badN v b l = false → l.foldl (fun n c => n * b + v c.toNat) a = l.foldl (fun n c => n * b + v' c.toNat) a from H l 0 hb
  intro l
  induction l with
  | nil => intro a _; rfl
  | cons c t ih =>
    intro a hb
    have hb' : decide (b ≤ v c.toNat) = false ∧ badN v b t = false := by simpa [badN] using hb
    have hc : v c.toNat < b := by have := hb'.1; simp at this; exact this
    simp only [List.foldl_cons]
    rw [(h c.toNat c.toNat_lt).2 hc]
    exact ih _ hb'.2
theorem badN_congr {v v' : Nat → Nat} {b : Nat} (h : ∀ n, n < 256 → (b ≤ v n ↔ b ≤ v' n) ∧ (v n < b → v n = v' n)) (l : List UInt8) : badN v b l = badN v' b l := by
  unfold badN
  induction l with
  | nil => rfl
  | cons c t ih =>
    simp only [List.any_cons]
    rw [ih, decide_eq_decide.mpr (h c.toNat c.toNat_lt).1]
theorem readN_congr {v v' : Nat → Nat} {b : Nat} (h : ∀ n, n < 256 → (b ≤ v n ↔ b ≤ v' n) ∧ (v n < b → v n = v' n)) (l : List UInt8) : readN v b l = readN v' b l := by
  unfold readN
  rw [badN_congr h l]
  by_cases h0 : l = [] ∨ badN v' b l = true
  · rw [if_pos h0, if_pos h0]
  · rw [if_neg h0, if_neg h0, valN_congr h l (by rw [badN_congr h l]; cases hx : badN v' b l <;> simp_all)]
theorem read_dec (l : List UInt8) : readN refV 10 l = readN decV 10 l := readN_congr (fun n hn => by unfold refV decV; (repeat' split) <;> omega) l
theorem read_hex (l : List UInt8) : readN refV 16 l = readN hexV 16 l := readN_congr (fun n hn => by unfold refV hexV; (repeat' split) <;> omega) l
theorem refV_lt (n : Nat) (h : n < 256) : refV n < 256 := by unfold refV; split <;> (try split) <;> (try split) <;> omega

theorem valN_mono (v : Nat → Nat) (b : Nat) (hb : 1 ≤ b) (l : List UInt8) (k : Nat) : valN v b (l.take k) ≤ valN v b l := by
  have H : ∀ (t : List UInt8) (a : Nat), a ≤ t.foldl (fun n c => n * b + v c.toNat) a := by
    intro t
    induction t with
    | nil => intro a; exact Nat.le_refl _
    | cons c t ih =>
      intro a
      simp only [List.foldl_cons]
      exact Nat.le_trans (Nat.le_trans (Nat.le_mul_of_pos_right a hb) (Nat.le_add_right _ _)) (ih _)
  have e : valN v b l = (l.drop k).foldl (fun n c => n * b + v c.toNat) (valN v b (l.take k)) := by
    unfold valN
    rw [← List.foldl_append, List.take_append_drop]
  rw [e]
  exact H _ _

end Go.Proofs.YtgjemgilanhdiaaDoor
